/- The functions as ghost code. Conditions: none; no statement is proved here. -/
import Derived.Test.YtpemapoblhleoaaGreatDoorA1
set_option linter.unusedVariables false
set_option linter.unusedSimpArgs false
set_option linter.unusedSectionVars false
set_option linter.unnecessarySimpa false
namespace Go.Proofs.YtpemapoblhleoaaGreatDoor.Ghost
open Go
def o_ (d:Nat) (x:GOp):Ln:=⟨some d,x,none,[],[]⟩
def on_ (x:GOp):Ln:=⟨none,x,none,[],[]⟩
def og (d:Nat) (x:GOp) (g:Nat) (b:Bool):Ln:=⟨some d,x,some (g,b),[],[]⟩
def od (d:Nat) (x:GOp) (r w:List Nat):Ln:=⟨some d,x,none,r,w⟩
def ogd (d:Nat) (x:GOp) (g:Nat) (b:Bool) (r:List Nat):Ln:=⟨some d,x,some (g,b),r,[]⟩
def mv (d i:Nat):Ln:=⟨some d,.move (.t i),none,[],[]⟩
def ld (d:Nat) (t:Ty) (i:Nat):Ln:=⟨some d,.load (.d t) (.t i),none,[],[]⟩
def fa (d:Nat) (t:Ty) (j i:Nat):Ln:=⟨some d,.fieldAddr (.d t) j (.t i),none,[],[]⟩
def bi (d:Nat) (b:BinOp) (i j:Nat):Ln:=⟨some d,.bin b (.t i) (.t j),none,[],[]⟩
def bc (d:Nat) (b:BinOp) (i:Nat) (n:Int):Ln:=⟨some d,.bin b (.t i) (.c (.int .i64) n),none,[],[]⟩
def ix (d:Nat) (t:IT) (i j:Nat):Ln:=⟨some d,.index t (.t i) (.t j),none,[],[]⟩
def le (d i:Nat):Ln:=⟨some d,.len (.t i),none,[],[]⟩
def xt (d i j:Nat):Ln:=⟨some d,.extract (.t i) j,none,[],[]⟩
def nt (d i:Nat):Ln:=⟨some d,.not (.t i),none,[],[]⟩
def ci (d:Nat) (n:Int):Ln:=⟨some d,.move (.c (.int .i64) n),none,[],[]⟩
def sr (t:Ty) (i j:Nat):Ln:=⟨none,.store (.d t) (.t i) (.t j),none,[],[]⟩
def nb (d k:Nat) (t:Ty):Ln:=⟨some d,.newbox k t [],none,[],[]⟩
def bx (d k i:Nat):Ln:=⟨some d,.box k (.t i),none,[],[]⟩
def td (l:List Nat):Cd:=.tidy l [] [] none
abbrev Z6:Ty:=.st [(.sl (.arr 4 (.int .i64))),(.sl (.int .i64)),(.sl (.int .i64)),(.sl (.int .i64)),(.sl .bool),(.int .i64),(.int .i64),(.int .i64)]
abbrev Zb:Ty:=.st [(.int .i64),(.int .i64)]
abbrev Za:Ty:=.st [Z6,(.sl (.int .i64)),(.sl (.int .i64)),(.sl Zb)]
abbrev Zx:Ty:=.st [(.int .i64),(.int .i64),(.int .i64),(.int .i64),(.int .i64),(.sl (.int .i64)),(.int .i64),(.sl (.int .i64)),(.int .i64)]
abbrev Xn:Ty:=.st [(.int .i64),Zb]
abbrev Zt:Ty:=.st [(.int .i64),(.int .i64),(.int .i64),(.sl (.int .i64)),(.sl Xn),(.int .i64)]
abbrev Nc:Ty:=.st [(.int .i64),Zx,(.int .i64),(.int .i64),Zt]
abbrev U2:Ty:=.st [(.int .i64),(.int .i64),(.int .i64),(.int .i64),(.int .i64),(.int .i64),(.int .i64)]
def CEj:Cd:=td [5,6]
def CHm:Cd:=td [7,8,9,10,11,12]
def CCk:Cd:=td [13,14,15,16,17,18]
def BI5:Cd:=td [19,20,21,22]
def BLa:Cd:=.skip
def BMe:Cd:=.exit 0
def BUm:Cd:=.cond (.t 23) (.seq (td [23]) (BLa)) (.seq (td [23]) (BMe))
def BLm:Cd:=td [26,27,28,29,30,31,32,33,34,35,36]
def BLl:Cd:=td [24,25]
def BSg:Cd:=.seq (.reg false [mv 24 4,
    bc 25 .add 24 1,
    mv 4 25]) (BLl)
def BKb:Cd:=.seq (.block 1 (.seq (.reg true [od 26 (.fieldAddr (.d Za) 3 (.t 3)) [2] [],
    od 27 (.load (.d (.sl Zb)) (.t 26)) [2] [],
    od 28 (.fieldAddr (.d Z6) 3 (.t 1)) [0] [],
    od 29 (.load (.d (.sl (.int .i64))) (.t 28)) [0] [],
    mv 30 4,
    ix 31 (.sl (.int .i64)) 29 30,
    ld 32 (.int .i64) 31,
    o_ 33 (.build Zb [(1,(.t 32))] []),
    od 34 (.slice 5 Zb [(.t 33)]) [] [5],
    od 35 (.append 6 Zb (.t 27) (.t 34)) [5] [6,9],
    od 36 (.fieldAddr (.d Za) 3 (.t 3)) [2] [],
    ⟨none,.store (.d (.sl Zb)) (.t 36) (.t 35),none,[],[2]⟩]) (BLm))) (BSg)
def BKk:Cd:=.tidy [] [(6,9)] [5] (some 10)
def CHh:Cd:=.seq (.seq (.seq (.seq (.reg false [mv 19 4,
    fa 20 Z6 3 1,
    o_ 21 (.load (.d (.sl (.int .i64))) (.t 20)),
    le 22 21,
    bi 23 .lss 19 22]) (BI5)) (BUm)) (BKb)) (BKk)
def CA6:Cd:=.block 0 (.loop (CHh))
def BSe:Cd:=td [37]
def BPc:Cd:=.ret
def BYc:Cd:=.seq (.seq (.reg false [ld 37 Za 3,
    sr Za 2 37]) (BSe)) (BPc)
def BVj:Cd:=.seq (.seq (.reg false [ci 4 0]) (CA6)) (BYc)
def CEb:Cd:=.seq (.seq (.reg false [fa 13 Za 2 3,
    o_ 14 (.load (.d (.sl (.int .i64))) (.t 13)),
    fa 15 Z6 2 1,
    o_ 16 (.load (.d (.sl (.int .i64))) (.t 15)),
    o_ 17 (.append 4 (.int .i64) (.t 14) (.t 16)),
    fa 18 Za 2 3,
    on_ (.store (.d (.sl (.int .i64))) (.t 18) (.t 17))]) (CCk)) (BVj)
def BWo:Cd:=.seq (.seq (.reg false [fa 7 Za 1 3,
    o_ 8 (.load (.d (.sl (.int .i64))) (.t 7)),
    fa 9 Z6 1 1,
    o_ 10 (.load (.d (.sl (.int .i64))) (.t 9)),
    o_ 11 (.append 3 (.int .i64) (.t 8) (.t 10)),
    fa 12 Za 1 3,
    on_ (.store (.d (.sl (.int .i64))) (.t 12) (.t 11))]) (CHm)) (CEb)
def CC3:Cd:=.seq (.seq (.reg false [ld 5 Z6 1,
    o_ 6 (.build Za [(0,(.t 5))] [([1],7),([2],8),([3],9)]),
    nb 3 2 Za,
    sr Za 3 6]) (CEj)) (BWo)
def Vo.fn:Fn:=⟨1,[.cell 2 (.d Za)],.seq (.reg false [bx 1 0 0,
    nb 2 1 Za]) (CC3)⟩
def CDk:Cd:=td [5,6,7,8,9,10,11]
def BVy:Cd:=.ret
def CI5:Cd:=.seq (.reg false [o_ 4 (.move (.c .str (⟨#[]⟩:ByteArray)))]) (BVy)
def CEt:Cd:=.skip
def BZn:Cd:=.cond (.t 12) (.seq (td [12]) (CI5)) (.seq (td [12]) (CEt))
def BX5:Cd:=td [13,14,15,16]
def CFa:Cd:=.ret
def BWa:Cd:=.seq (.seq (.reg false [mv 13 0,
    mv 14 1,
    ix 15 (.sl .str) 13 14,
    ld 16 .str 15,
    mv 4 16]) (BX5)) (CFa)
def BYo:Cd:=.seq (.seq (.seq (.reg false [mv 5 1,
    bc 6 .lss 5 0,
    mv 7 6,
    og 8 (.move (.t 1)) 7 false,
    og 9 (.move (.t 0)) 7 false,
    og 10 (.len (.t 9)) 7 false,
    og 11 (.bin .geq (.t 8) (.t 10)) 7 false,
    o_ 12 (.pick (.t 7) (.c .bool true) (.t 11))]) (CDk)) (BZn)) (BWa)
def Hr.fn:Fn:=⟨2,[.tmp 4],.seq (.reg false [o_ 4 (.move (.c .str (⟨#[]⟩:ByteArray)))]) (BYo)⟩
def BWh:Cd:=td [3,4,5]
def BYt:Cd:=.ret
def CEx:Cd:=.seq (.seq (.reg false [o_ 3 (.slicearr 11 .str (.g 0)),
    mv 4 0,
    o_ 5 (.call (.f 81) [(.t 3),(.t 4)] [.d .str] [] false),
    mv 2 5]) (BWh)) (BYt)
def H6.fn:Fn:=⟨1,[.tmp 2],.seq (.reg false [o_ 2 (.move (.c .str (⟨#[]⟩:ByteArray)))]) (CEx)⟩
def CFr:Cd:=td [4,5,6]
def CD1:Cd:=td [7]
def BZ7:Cd:=td [10]
def BVh:Cd:=td [11,12,13]
def BVz:Cd:=.seq (.reg false [fa 11 Zx 1 1,
    ld 12 (.int .i64) 11,
    fa 13 Zx 1 3,
    sr (.int .i64) 13 12]) (BVh)
def AZr:Cd:=td [15]
def BRz:Cd:=td [16,17,18,19,20,21]
def BGd:Cd:=.seq (.reg true [od 16 (.fieldAddr (.d Zx) 4 (.t 1)) [0] [],
    od 17 (.load (.d (.int .i64)) (.t 16)) [0] [],
    od 18 (.fieldAddr (.d Zx) 1 (.t 1)) [0] [],
    od 19 (.load (.d (.int .i64)) (.t 18)) [0] [],
    od 20 (.fieldAddr (.d Zx) 4 (.t 3)) [2] [],
    ⟨none,.store (.d (.int .i64)) (.t 20) (.t 17),none,[],[2]⟩,
    od 21 (.fieldAddr (.d Zx) 1 (.t 3)) [2] [],
    ⟨none,.store (.d (.int .i64)) (.t 21) (.t 19),none,[],[2]⟩]) (BRz)
def BJe:Cd:=td [23]
def BPx:Cd:=td [24]
def BFs:Cd:=.cond (.t 22) (.skip) (.seq (.reg false [bc 24 .eql 8 4,
    mv 22 24]) (BPx))
def BSp:Cd:=td [25,26,27]
def BBs:Cd:=td [29]
def BKf:Cd:=td [30]
def BE3:Cd:=.cond (.t 28) (.skip) (.seq (.reg false [bc 30 .eql 8 6,
    mv 28 30]) (BKf))
def BFx:Cd:=td [31,32,33,34,35,36]
def BO3:Cd:=td [38]
def BC9:Cd:=td [39,40,41,42,43,44]
def AXk:Cd:=.seq (.reg true [od 39 (.fieldAddr (.d Zx) 2 (.t 1)) [0] [],
    od 40 (.load (.d (.int .i64)) (.t 39)) [0] [],
    od 41 (.fieldAddr (.d Zx) 4 (.t 1)) [0] [],
    od 42 (.load (.d (.int .i64)) (.t 41)) [0] [],
    od 43 (.fieldAddr (.d Zx) 2 (.t 3)) [2] [],
    ⟨none,.store (.d (.int .i64)) (.t 43) (.t 40),none,[],[2]⟩,
    od 44 (.fieldAddr (.d Zx) 4 (.t 3)) [2] [],
    ⟨none,.store (.d (.int .i64)) (.t 44) (.t 42),none,[],[2]⟩]) (BC9)
def BBw:Cd:=td [46]
def BBt:Cd:=td [47,48,49,50,51,52,53,54,55,56,57,58,59,60,61]
def AXc:Cd:=.seq (.reg true [od 47 (.fieldAddr (.d Zx) 4 (.t 1)) [0] [],
    od 48 (.load (.d (.int .i64)) (.t 47)) [0] [],
    od 49 (.fieldAddr (.d Zx) 5 (.t 1)) [0] [],
    od 50 (.load (.d (.sl (.int .i64))) (.t 49)) [0] [],
    od 51 (.fieldAddr (.d Zx) 6 (.t 1)) [0] [],
    od 52 (.load (.d (.int .i64)) (.t 51)) [0] [],
    od 53 (.fieldAddr (.d Zx) 7 (.t 1)) [0] [],
    od 54 (.load (.d (.sl (.int .i64))) (.t 53)) [0] [],
    od 55 (.fieldAddr (.d Zx) 8 (.t 1)) [0] [],
    od 56 (.load (.d (.int .i64)) (.t 55)) [0] [],
    od 57 (.fieldAddr (.d Zx) 4 (.t 3)) [2] [],
    ⟨none,.store (.d (.int .i64)) (.t 57) (.t 48),none,[],[2]⟩,
    od 58 (.fieldAddr (.d Zx) 5 (.t 3)) [2] [],
    ⟨none,.store (.d (.sl (.int .i64))) (.t 58) (.t 50),none,[],[2]⟩,
    od 59 (.fieldAddr (.d Zx) 6 (.t 3)) [2] [],
    ⟨none,.store (.d (.int .i64)) (.t 59) (.t 52),none,[],[2]⟩,
    od 60 (.fieldAddr (.d Zx) 7 (.t 3)) [2] [],
    ⟨none,.store (.d (.sl (.int .i64))) (.t 60) (.t 54),none,[],[2]⟩,
    od 61 (.fieldAddr (.d Zx) 8 (.t 3)) [2] [],
    ⟨none,.store (.d (.int .i64)) (.t 61) (.t 56),none,[],[2]⟩]) (BBt)
def BF5:Cd:=.skip
def BIw:Cd:=.cond (.t 45) (.seq (td [45]) (AXc)) (.seq (td [45]) (BF5))
def AUy:Cd:=.seq (.seq (.reg false [bc 46 .eql 8 8,
    mv 45 46]) (BBw)) (BIw)
def BF0:Cd:=.cond (.t 37) (.seq (td [37]) (AXk)) (.seq (td [37]) (AUy))
def BFm:Cd:=.cond (.t 28) (.seq (.reg true [od 31 (.fieldAddr (.d Zx) 2 (.t 1)) [0] [],
    od 32 (.load (.d (.int .i64)) (.t 31)) [0] [],
    od 33 (.fieldAddr (.d Zx) 3 (.t 1)) [0] [],
    od 34 (.load (.d (.int .i64)) (.t 33)) [0] [],
    od 35 (.fieldAddr (.d Zx) 2 (.t 3)) [2] [],
    ⟨none,.store (.d (.int .i64)) (.t 35) (.t 32),none,[],[2]⟩,
    od 36 (.fieldAddr (.d Zx) 3 (.t 3)) [2] [],
    ⟨none,.store (.d (.int .i64)) (.t 36) (.t 34),none,[],[2]⟩]) (BFx)) (.seq (.seq (.reg false [bc 38 .eql 8 7,
    mv 37 38]) (BO3)) (BF0))
def BAg:Cd:=.cond (.t 22) (.seq (.reg false [fa 25 Zx 2 1,
    ld 26 (.int .i64) 25,
    fa 27 Zx 2 3,
    sr (.int .i64) 27 26]) (BSp)) (.seq (.seq (.seq (.reg false [bc 29 .eql 8 5,
    mv 28 29]) (BBs)) (BE3)) (BFm))
def BG6:Cd:=.seq (.seq (.seq (.reg false [bc 23 .eql 8 3,
    mv 22 23]) (BJe)) (BFs)) (BAg)
def AXs:Cd:=.cond (.t 14) (.seq (td [14]) (BGd)) (.seq (td [14]) (BG6))
def BQ5:Cd:=.seq (.seq (.reg false [bc 15 .eql 8 2,
    mv 14 15]) (AZr)) (AXs)
def CHj:Cd:=.cond (.t 9) (.seq (td [9]) (BVz)) (.seq (td [9]) (BQ5))
def BZz:Cd:=.block 0 (.seq (.seq (.reg false [bc 10 .eql 8 1,
    mv 9 10]) (BZ7)) (CHj))
def BB1:Cd:=td [62]
def AVy:Cd:=.ret
def CF8:Cd:=.seq (.seq (.reg false [ld 62 Zx 3,
    sr Zx 2 62]) (BB1)) (AVy)
def CFi:Cd:=.seq (.seq (.seq (.reg false [fa 7 Zx 0 1,
    ld 8 (.int .i64) 7]) (CD1)) (BZz)) (CF8)
def CHv:Cd:=.seq (.seq (.reg false [fa 4 Zx 0 1,
    ld 5 (.int .i64) 4,
    o_ 6 (.build Zx [(0,(.t 5))] []),
    nb 3 2 Zx,
    sr Zx 3 6]) (CFr)) (CFi)
def Q6.fn:Fn:=⟨1,[.cell 2 (.d Zx)],.seq (.reg false [bx 1 0 0,
    nb 2 1 Zx]) (CHv)⟩
def CEg:Cd:=td [3,4,5,6,7,8,9,10,11,12,13,14,15,16,17]
def CJp:Cd:=.ret
def CA1:Cd:=.seq (.seq (.reg false [fa 3 Zx 0 1,
    ld 4 (.int .i64) 3,
    fa 5 Zx 1 1,
    ld 6 (.int .i64) 5,
    fa 7 Zx 2 1,
    ld 8 (.int .i64) 7,
    fa 9 Zx 3 1,
    ld 10 (.int .i64) 9,
    fa 11 Zx 4 1,
    ld 12 (.int .i64) 11,
    fa 13 Zx 6 1,
    ld 14 (.int .i64) 13,
    fa 15 Zx 8 1,
    ld 16 (.int .i64) 15,
    o_ 17 (.build U2 [(0,(.t 4)),(1,(.t 6)),(2,(.t 8)),(3,(.t 10)),(4,(.t 12)),(5,(.t 14)),(6,(.t 16))] []),
    sr U2 2 17]) (CEg)) (CJp)
def Wc.fn:Fn:=⟨1,[.cell 2 (.d U2)],.seq (.reg false [bx 1 0 0,
    nb 2 1 U2]) (CA1)⟩
def CHs:Cd:=td [6,7,8,9]
def CHw:Cd:=.ret
def BYf:Cd:=.seq (.reg false [o_ 4 (.move (.c .bool false))]) (CHw)
def CAq:Cd:=.skip
def CBp:Cd:=.cond (.t 10) (.seq (td [10]) (BYf)) (.seq (td [10]) (CAq))
def BUz:Cd:=td [11]
def BIo:Cd:=.skip
def BP1:Cd:=.exit 0
def AYl:Cd:=td [15]
def BP3:Cd:=td [16,17,18,19,20,21,22,23]
def AYs:Cd:=.ret
def AZh:Cd:=.seq (.reg false [o_ 4 (.move (.c .bool false))]) (AYs)
def BSj:Cd:=.skip
def BEv:Cd:=.cond (.t 24) (.seq (td [24]) (AZh)) (.seq (td [24]) (BSj))
def BGu:Cd:=.seq (.seq (.reg true [mv 16 0,
    mv 17 5,
    ix 18 (.sl (.int .i64)) 16 17,
    ld 19 (.int .i64) 18,
    mv 20 1,
    mv 21 5,
    ix 22 (.sl (.int .i64)) 20 21,
    ld 23 (.int .i64) 22,
    bi 24 .neq 19 23]) (BP3)) (BEv)
def BLr:Cd:=td [25]
def BEp:Cd:=.seq (.reg false [bc 25 .add 13 1,
    mv 13 25]) (BLr)
def BNs:Cd:=.seq (.block 1 (.seq (.seq (.reg false [mv 15 13,
    mv 5 15]) (AYl)) (BGu))) (BEp)
def BDo:Cd:=.seq (.cond (.t 14) (.seq (td [14]) (BIo)) (.seq (td [14]) (BP1))) (BNs)
def BIt:Cd:=.tidy [5] [] [] (some 0)
def ANn:Cd:=.seq (.seq (.reg false [bi 14 .lss 13 12]) (BDo)) (BIt)
def BW5:Cd:=.block 0 (.loop (ANn))
def AUh:Cd:=.ret
def ATf:Cd:=.seq (.reg false [o_ 4 (.move (.c .bool true))]) (AUh)
def BVd:Cd:=.seq (.seq (.seq (.reg false [mv 11 0,
    le 12 11,
    ci 13 0]) (BUz)) (BW5)) (ATf)
def BX1:Cd:=.seq (.seq (.seq (.reg false [mv 6 0,
    le 7 6,
    mv 8 1,
    le 9 8,
    bi 10 .neq 7 9]) (CHs)) (CBp)) (BVd)
def Zs.fn:Fn:=⟨2,[.tmp 4],.seq (.reg false [o_ 4 (.move (.c .bool false))]) (BX1)⟩
def BZm:Cd:=td [5,6,7,8,9,10,11,12,13,14,15,16,17,18,19,20,21,22,23]
def BZy:Cd:=.ret
def CEd:Cd:=.seq (.seq (.reg true [od 5 (.load (.d Zx) (.t 2)) [0] [],
    o_ 6 (.call (.f 82) [(.t 5)] [.d U2] [] false),
    od 7 (.load (.d Zx) (.t 3)) [1] [],
    o_ 8 (.call (.f 82) [(.t 7)] [.d U2] [] false),
    o_ 9 (.eqs U2 false (.t 6) (.t 8)),
    mv 10 9,
    ogd 11 (.fieldAddr (.d Zx) 5 (.t 2)) 10 true [0],
    ogd 12 (.load (.d (.sl (.int .i64))) (.t 11)) 10 true [0],
    ogd 13 (.fieldAddr (.d Zx) 5 (.t 3)) 10 true [1],
    ogd 14 (.load (.d (.sl (.int .i64))) (.t 13)) 10 true [1],
    og 15 (.call (.f 83) [(.t 12),(.t 14)] [.d .bool] [] false) 10 true,
    o_ 16 (.pick (.t 10) (.t 15) (.c .bool false)),
    mv 17 16,
    ogd 18 (.fieldAddr (.d Zx) 7 (.t 2)) 17 true [0],
    ogd 19 (.load (.d (.sl (.int .i64))) (.t 18)) 17 true [0],
    ogd 20 (.fieldAddr (.d Zx) 7 (.t 3)) 17 true [1],
    ogd 21 (.load (.d (.sl (.int .i64))) (.t 20)) 17 true [1],
    og 22 (.call (.f 83) [(.t 19),(.t 21)] [.d .bool] [] false) 17 true,
    o_ 23 (.pick (.t 17) (.t 22) (.c .bool false)),
    mv 4 23]) (BZm)) (BZy)
def H3.fn:Fn:=⟨2,[.tmp 4],.seq (.reg false [bx 2 0 0,
    bx 3 1 1,
    o_ 4 (.move (.c .bool false))]) (CEd)⟩
def BXk:Cd:=td [3,4,5]
def BXz:Cd:=.ret
def CDy:Cd:=.seq (.seq (.reg false [o_ 3 (.slicearr 4 .str (.g 1)),
    mv 4 0,
    o_ 5 (.call (.f 81) [(.t 3),(.t 4)] [.d .str] [] false),
    mv 2 5]) (BXk)) (BXz)
def Ud.fn:Fn:=⟨1,[.tmp 2],.seq (.reg false [o_ 2 (.move (.c .str (⟨#[]⟩:ByteArray)))]) (CDy)⟩
def CC4:Cd:=td [3,4,5,6,7,8]
def CI0:Cd:=.ret
def CA8:Cd:=.seq (.seq (.reg false [mv 3 0,
    bc 4 .geq 3 0,
    mv 5 4,
    og 6 (.move (.t 0)) 5 true,
    og 7 (.bin .leq (.t 6) (.c (.int .i64) (1073741824:Int))) 5 true,
    o_ 8 (.pick (.t 5) (.t 7) (.c .bool false)),
    mv 2 8]) (CC4)) (CI0)
def Hb.fn:Fn:=⟨1,[.tmp 2],.seq (.reg false [o_ 2 (.move (.c .bool false))]) (CA8)⟩
def BWt:Cd:=td [3,4,5]
def CHc:Cd:=.ret
def BV1:Cd:=.seq (.seq (.reg false [mv 3 0,
    o_ 4 (.call (.f 49) [(.t 3)] [.d .bool] [] false),
    nt 5 4,
    mv 2 5]) (BWt)) (CHc)
def K6.fn:Fn:=⟨1,[.tmp 2],.seq (.reg false [o_ 2 (.move (.c .bool false))]) (BV1)⟩
def BRa:Cd:=td [6]
def BGy:Cd:=.skip
def AQo:Cd:=.exit 0
def AO3:Cd:=td [10]
def AQv:Cd:=td [11,12,13,14,15]
def ASn:Cd:=td [17]
def ASv:Cd:=.ret
def AQy:Cd:=.seq (.seq (.reg false [mv 17 5,
    mv 4 17]) (ASn)) (ASv)
def AQ2:Cd:=.skip
def ASj:Cd:=.cond (.t 16) (.seq (td [16]) (AQy)) (.seq (td [16]) (AQ2))
def ASs:Cd:=.seq (.seq (.reg false [mv 11 1,
    mv 12 0,
    mv 13 5,
    ix 14 (.sl (.int .i64)) 12 13,
    ld 15 (.int .i64) 14,
    o_ 16 (.call (.t 11) [(.t 15)] [.d .bool] [] false)]) (AQv)) (ASj)
def APh:Cd:=td [18]
def BFo:Cd:=.seq (.reg false [bc 18 .add 8 1,
    mv 8 18]) (APh)
def BGp:Cd:=.seq (.block 1 (.seq (.seq (.reg false [mv 10 8,
    mv 5 10]) (AO3)) (ASs))) (BFo)
def AZi:Cd:=.seq (.cond (.t 9) (.seq (td [9]) (BGy)) (.seq (td [9]) (AQo))) (BGp)
def BBq:Cd:=.tidy [5] [] [] (some 0)
def AD3:Cd:=.seq (.seq (.reg false [bi 9 .lss 8 7]) (AZi)) (BBq)
def AX8:Cd:=.block 0 (.loop (AD3))
def AR7:Cd:=.ret
def ACm:Cd:=.seq (.reg false [o_ 4 (.move (.c (.int .i64) ((-1):Int)))]) (AR7)
def BT9:Cd:=.seq (.seq (.seq (.reg false [mv 6 0,
    le 7 6,
    ci 8 0]) (BRa)) (AX8)) (ACm)
def Zm.fn:Fn:=⟨2,[.tmp 4],.seq (.reg false [ci 4 0]) (BT9)⟩
def CHx:Cd:=td [5,6,7,8]
def BZa:Cd:=.ret
def CIh:Cd:=.seq (.seq (.reg false [mv 5 0,
    mv 6 1,
    o_ 7 (.call (.f 127) [(.t 5),(.t 6)] [.d (.int .i64)] [] false),
    bc 8 .geq 7 0,
    mv 4 8]) (CHx)) (BZa)
def Xk.fn:Fn:=⟨2,[.tmp 4],.seq (.reg false [o_ 4 (.move (.c .bool false))]) (CIh)⟩
def BUp:Cd:=td [3,4,5,6,7,8,9,10]
def CJo:Cd:=.ret
def CHp:Cd:=.seq (.seq (.reg false [mv 3 0,
    le 4 3,
    bc 5 .leq 4 16,
    mv 6 5,
    og 7 (.move (.t 0)) 6 true,
    og 8 (.call (.f 84) [(.t 7),(.f 85)] [.d .bool] [] false) 6 true,
    og 9 (.not (.t 8)) 6 true,
    o_ 10 (.pick (.t 6) (.t 9) (.c .bool false)),
    mv 2 10]) (BUp)) (CJo)
def G5.fn:Fn:=⟨1,[.tmp 2],.seq (.reg false [o_ 2 (.move (.c .bool false))]) (CHp)⟩
def CBl:Cd:=td [3,4,5,6,7,8,9,10,11,12,13,14,15,16,17,18,19,20,21,22,23,24,25,26,27,28,29,30,31,32,33,34,35,36,37,38,39,40,41,42,43,44,45,46,47,48,49,50,51,52,53]
def CG6:Cd:=.ret
def BVt:Cd:=.seq (.seq (.reg true [od 3 (.fieldAddr (.d Zx) 0 (.t 1)) [0] [],
    od 4 (.load (.d (.int .i64)) (.t 3)) [0] [],
    o_ 5 (.call (.f 45) [(.t 4)] [.d .str] [] false),
    o_ 6 (.eqs .str true (.t 5) (.c .str (⟨#[]⟩:ByteArray))),
    mv 7 6,
    ogd 8 (.load (.d Zx) (.t 1)) 7 true [0],
    ogd 9 (.load (.d Zx) (.t 1)) 7 true [0],
    og 10 (.call (.f 47) [(.t 9)] [.d Zx] [] false) 7 true,
    og 11 (.call (.f 46) [(.t 8),(.t 10)] [.d .bool] [] false) 7 true,
    o_ 12 (.pick (.t 7) (.t 11) (.c .bool false)),
    mv 13 12,
    ogd 14 (.fieldAddr (.d Zx) 1 (.t 1)) 13 true [0],
    ogd 15 (.load (.d (.int .i64)) (.t 14)) 13 true [0],
    og 16 (.call (.f 48) [(.t 15)] [.d .str] [] false) 13 true,
    og 17 (.eqs .str true (.t 16) (.c .str (⟨#[]⟩:ByteArray))) 13 true,
    o_ 18 (.pick (.t 13) (.t 17) (.c .bool false)),
    mv 19 18,
    ogd 20 (.fieldAddr (.d Zx) 2 (.t 1)) 19 true [0],
    ogd 21 (.load (.d (.int .i64)) (.t 20)) 19 true [0],
    og 22 (.call (.f 49) [(.t 21)] [.d .bool] [] false) 19 true,
    o_ 23 (.pick (.t 19) (.t 22) (.c .bool false)),
    mv 24 23,
    ogd 25 (.fieldAddr (.d Zx) 3 (.t 1)) 24 true [0],
    ogd 26 (.load (.d (.int .i64)) (.t 25)) 24 true [0],
    og 27 (.call (.f 49) [(.t 26)] [.d .bool] [] false) 24 true,
    o_ 28 (.pick (.t 24) (.t 27) (.c .bool false)),
    mv 29 28,
    ogd 30 (.fieldAddr (.d Zx) 4 (.t 1)) 29 true [0],
    ogd 31 (.load (.d (.int .i64)) (.t 30)) 29 true [0],
    og 32 (.call (.f 49) [(.t 31)] [.d .bool] [] false) 29 true,
    o_ 33 (.pick (.t 29) (.t 32) (.c .bool false)),
    mv 34 33,
    ogd 35 (.fieldAddr (.d Zx) 6 (.t 1)) 34 true [0],
    ogd 36 (.load (.d (.int .i64)) (.t 35)) 34 true [0],
    og 37 (.call (.f 49) [(.t 36)] [.d .bool] [] false) 34 true,
    o_ 38 (.pick (.t 34) (.t 37) (.c .bool false)),
    mv 39 38,
    ogd 40 (.fieldAddr (.d Zx) 8 (.t 1)) 39 true [0],
    ogd 41 (.load (.d (.int .i64)) (.t 40)) 39 true [0],
    og 42 (.call (.f 49) [(.t 41)] [.d .bool] [] false) 39 true,
    o_ 43 (.pick (.t 39) (.t 42) (.c .bool false)),
    mv 44 43,
    ogd 45 (.fieldAddr (.d Zx) 5 (.t 1)) 44 true [0],
    ogd 46 (.load (.d (.sl (.int .i64))) (.t 45)) 44 true [0],
    og 47 (.call (.f 50) [(.t 46)] [.d .bool] [] false) 44 true,
    o_ 48 (.pick (.t 44) (.t 47) (.c .bool false)),
    mv 49 48,
    ogd 50 (.fieldAddr (.d Zx) 7 (.t 1)) 49 true [0],
    ogd 51 (.load (.d (.sl (.int .i64))) (.t 50)) 49 true [0],
    og 52 (.call (.f 50) [(.t 51)] [.d .bool] [] false) 49 true,
    o_ 53 (.pick (.t 49) (.t 52) (.c .bool false)),
    mv 2 53]) (CBl)) (CG6)
def H0.fn:Fn:=⟨1,[.tmp 2],.seq (.reg false [bx 1 0 0,
    o_ 2 (.move (.c .bool false))]) (BVt)⟩
def BQa:Cd:=td [5]
def AUf:Cd:=.ret
def BE2:Cd:=.seq (.seq (.reg false [o_ 5 (.func 138 [(.t 2),(.t 3)]),
    mv 4 5]) (BQa)) (AUf)
def Gy.fn:Fn:=⟨2,[.tmp 4],.seq (.reg false [bx 2 0 0,
    bx 3 1 1,
    o_ 4 (.move .nf)]) (BE2)⟩
def AW5:Cd:=td [6,7,8,9]
def BFc:Cd:=td [10,11,12,13,14,15]
def BIl:Cd:=.ret
def BMi:Cd:=.seq (.seq (.reg false [mv 10 5,
    mv 11 5,
    le 12 11,
    bc 13 .sub 12 1,
    ix 14 (.sl Zb) 10 13,
    ld 15 Zb 14,
    sr Zb 4 15]) (BFc)) (BIl)
def BAk:Cd:=.seq (.seq (.reg false [ld 6 Za 2,
    mv 7 1,
    o_ 8 (.call (.f 131) [(.t 6),(.t 7)] [.clo 138 [.ref Za,.ref (.int .i64)]] [] false),
    o_ 9 (.call (.f 132) [(.t 8)] [.d (.sl Zb)] [] false),
    mv 5 9]) (AW5)) (BMi)
def Ko.fn:Fn:=⟨2,[.cell 4 (.d Zb)],.seq (.reg false [bx 2 0 0,
    nb 4 1 Zb]) (BAk)⟩
def BO6:Cd:=td [8]
def BB5:Cd:=.skip
def AQ6:Cd:=.exit 0
def AO6:Cd:=td [13,14,15]
def AQz:Cd:=td [16,17,18,19]
def AP7:Cd:=td [21,22,23,24,25,26]
def AOv:Cd:=.seq (.reg false [mv 21 5,
    mv 22 6,
    ld 23 Zb 7,
    o_ 24 (.build Xn [(0,(.t 22)),(1,(.t 23))] []),
    o_ 25 (.slice 3 Xn [(.t 24)]),
    o_ 26 (.append 4 Xn (.t 21) (.t 25)),
    mv 5 26]) (AP7)
def AS2:Cd:=.skip
def AQq:Cd:=.cond (.t 20) (.seq (td [20]) (AOv)) (.seq (td [20]) (AS2))
def AQj:Cd:=.seq (.seq (.reg true [od 16 (.load (.d Za) (.t 2)) [0] [],
    mv 17 6,
    o_ 18 (.call (.f 130) [(.t 16),(.t 17)] [.d Zb] [] false),
    od 19 (.load (.d Zb) (.t 3)) [1] [],
    o_ 20 (.eqs Zb false (.t 18) (.t 19))]) (AQz)) (AQq)
def AOy:Cd:=td [27]
def ASl:Cd:=.seq (.reg false [bc 27 .add 11 1,
    mv 11 27]) (AOy)
def BKu:Cd:=.seq (.block 1 (.seq (.seq (.reg false [mv 13 11,
    ix 14 (.sl Zb) 9 11,
    ld 15 Zb 14,
    nb 7 2 Zb,
    mv 6 13,
    sr Zb 7 15]) (AO6)) (AQj))) (ASl)
def BJs:Cd:=.seq (.cond (.t 12) (.seq (td [12]) (BB5)) (.seq (td [12]) (AQ6))) (BKu)
def BR7:Cd:=.tidy [6,7] [(4,5)] [2,3] (some 6)
def ANx:Cd:=.seq (.seq (.reg false [bi 12 .lss 11 10]) (BJs)) (BR7)
def BEe:Cd:=.block 0 (.loop (ANx))
def ARx:Cd:=td [28]
def AR0:Cd:=.ret
def AOo:Cd:=.seq (.seq (.reg false [mv 28 5,
    mv 4 28]) (ARx)) (AR0)
def BTt:Cd:=.seq (.seq (.seq (.reg false [fa 8 Za 3 2,
    ld 9 (.sl Zb) 8,
    le 10 9,
    ci 11 0]) (BO6)) (BEe)) (AOo)
def BQ7:Cd:=.seq (.reg false [o_ 5 (.mknil 5 Xn)]) (BTt)
def X1.fn:Fn:=⟨2,[.tmp 4],.seq (.reg false [bx 2 0 0,
    bx 3 1 1,
    o_ 4 (.move (.c (.sl Xn) []))]) (BQ7)⟩
def BZc:Cd:=td [5,6,7,8,9,10,11,12,13,14]
def CFw:Cd:=.ret
def CCr:Cd:=.seq (.seq (.reg true [od 5 (.fieldAddr (.d Za) 2 (.t 2)) [0] [],
    od 6 (.load (.d (.sl (.int .i64))) (.t 5)) [0] [],
    mv 7 1,
    ix 8 (.sl (.int .i64)) 6 7,
    ld 9 (.int .i64) 8,
    od 10 (.load (.d Za) (.t 2)) [0] [],
    mv 11 1,
    o_ 12 (.build Zb [(0,(.c (.int .i64) (1:Int))),(1,(.t 11))] []),
    o_ 13 (.call (.f 125) [(.t 10),(.t 12)] [.d (.sl Xn)] [] false),
    o_ 14 (.build Zt [(1,(.c (.int .i64) (10:Int))),(5,(.t 9)),(4,(.t 13))] []),
    ⟨none,.store (.d Zt) (.t 4) (.t 14),none,[],[1]⟩]) (BZc)) (CFw)
def K5.fn:Fn:=⟨2,[.cell 4 (.d Zt)],.seq (.reg false [bx 2 0 0,
    nb 4 1 Zt]) (CCr)⟩
def BKc:Cd:=td [6]
def BPm:Cd:=td [9,10,11,12,13]
def BGr:Cd:=.ret
def BN4:Cd:=.seq (.seq (.reg true [od 9 (.load (.d Za) (.t 4)) [0] [],
    o_ 10 (.load (.v false 1) (.t 3)),
    od 11 (.load (.d Za) (.t 4)) [0] [],
    mv 12 1,
    o_ 13 (.call (.t 10) [(.t 11),(.t 12)] [.d Zt] [] false),
    ⟨none,.store (.d Za) (.t 7) (.t 9),none,[],[2]⟩,
    ⟨none,.store (.d Zt) (.t 8) (.t 13),none,[],[3]⟩]) (BPm)) (BGr)
def Qv.fn:Fn:=⟨4,[.cell 7 (.d Za),.cell 8 (.d Zt)],.seq (.seq (.reg false [bx 4 0 0,
    bx 6 1 2,
    nb 7 2 Za,
    nb 8 3 Zt]) (BKc)) (BN4)⟩
def AYc:Cd:=td [7,8]
def BLu:Cd:=.skip
def AQm:Cd:=.exit 0
def AP4:Cd:=td [12]
def AQt:Cd:=td [13,14,15,16,17,18]
def ARk:Cd:=td [20,21,22,23]
def ASx:Cd:=.seq (.reg false [mv 20 5,
    mv 21 6,
    o_ 22 (.slice 1 (.int .i64) [(.t 21)]),
    o_ 23 (.append 2 (.int .i64) (.t 20) (.t 22)),
    mv 5 23]) (ARk)
def APr:Cd:=.skip
def ASf:Cd:=.cond (.t 19) (.seq (td [19]) (ASx)) (.seq (td [19]) (APr))
def AQp:Cd:=.seq (.seq (.reg false [fa 13 Za 1 2,
    o_ 14 (.load (.d (.sl (.int .i64))) (.t 13)),
    mv 15 6,
    ix 16 (.sl (.int .i64)) 14 15,
    ld 17 (.int .i64) 16,
    mv 18 1,
    bi 19 .eql 17 18]) (AQt)) (ASf)
def AQn:Cd:=td [24]
def APd:Cd:=.seq (.reg false [bc 24 .add 10 1,
    mv 10 24]) (AQn)
def BKx:Cd:=.seq (.block 1 (.seq (.seq (.reg false [mv 12 10,
    mv 6 12]) (AP4)) (AQp))) (APd)
def AYy:Cd:=.seq (.cond (.t 11) (.seq (td [11]) (BLu)) (.seq (td [11]) (AQm))) (BKx)
def BAx:Cd:=.tidy [6] [(2,3)] [1] (some 4)
def AN5:Cd:=.seq (.seq (.reg false [bi 11 .lss 10 9]) (AYy)) (BAx)
def AWl:Cd:=.block 0 (.loop (AN5))
def AO9:Cd:=td [25]
def AO5:Cd:=.ret
def ALv:Cd:=.seq (.seq (.reg false [mv 25 5,
    mv 4 25]) (AO9)) (AO5)
def BKo:Cd:=.seq (.seq (.seq (.reg false [fa 7 Za 1 2,
    o_ 8 (.load (.d (.sl (.int .i64))) (.t 7)),
    le 9 8,
    ci 10 0]) (AYc)) (AWl)) (ALv)
def BN1:Cd:=.seq (.reg false [o_ 5 (.mknil 3 (.int .i64))]) (BKo)
def Xl.fn:Fn:=⟨2,[.tmp 4],.seq (.reg false [bx 2 0 0,
    o_ 4 (.move (.c (.sl (.int .i64)) []))]) (BN1)⟩
def CC8:Cd:=td [6,7,8,9,10]
def BUu:Cd:=td [11,12,13,14,15,16,17,18,19]
def CJf:Cd:=.ret
def CCh:Cd:=.seq (.seq (.reg true [mv 11 5,
    od 12 (.load (.d Za) (.t 2)) [0] [],
    mv 13 5,
    o_ 14 (.call (.f 124) [(.t 12),(.t 13)] [.d (.sl (.int .i64))] [] false),
    od 15 (.load (.d Za) (.t 2)) [0] [],
    mv 16 5,
    o_ 17 (.build Zb [(0,(.c (.int .i64) (0:Int))),(1,(.t 16))] []),
    o_ 18 (.call (.f 125) [(.t 15),(.t 17)] [.d (.sl Xn)] [] false),
    o_ 19 (.build Zt [(1,(.c (.int .i64) (9:Int))),(2,(.t 11)),(3,(.t 14)),(4,(.t 18))] []),
    ⟨none,.store (.d Zt) (.t 4) (.t 19),none,[],[1]⟩]) (BUu)) (CJf)
def CIc:Cd:=.seq (.seq (.reg false [fa 6 Za 1 2,
    o_ 7 (.load (.d (.sl (.int .i64))) (.t 6)),
    mv 8 1,
    ix 9 (.sl (.int .i64)) 7 8,
    ld 10 (.int .i64) 9,
    mv 5 10]) (CC8)) (CCh)
def V8.fn:Fn:=⟨2,[.cell 4 (.d Zt)],.seq (.reg false [bx 2 0 0,
    nb 4 1 Zt]) (CIc)⟩
def BR3:Cd:=td [5,6,7,8,9,10,11,12,13]
def BUg:Cd:=.ret
def BPi:Cd:=.seq (.seq (.reg false [mv 5 1,
    bc 6 .geq 5 0,
    mv 7 6,
    og 8 (.move (.t 1)) 7 true,
    og 9 (.fieldAddr (.d Za) 1 (.t 2)) 7 true,
    og 10 (.load (.d (.sl (.int .i64))) (.t 9)) 7 true,
    og 11 (.len (.t 10)) 7 true,
    og 12 (.bin .lss (.t 8) (.t 11)) 7 true,
    o_ 13 (.pick (.t 7) (.t 12) (.c .bool false)),
    mv 4 13]) (BR3)) (BUg)
def Qy.fn:Fn:=⟨2,[.tmp 4],.seq (.reg false [bx 2 0 0,
    o_ 4 (.move (.c .bool false))]) (BPi)⟩
def BFd:Cd:=td [5,6,7,8,9,10,11,12,13]
def BEt:Cd:=.ret
def BTl:Cd:=.seq (.seq (.reg false [mv 5 1,
    bc 6 .geq 5 0,
    mv 7 6,
    og 8 (.move (.t 1)) 7 true,
    og 9 (.fieldAddr (.d Za) 3 (.t 2)) 7 true,
    og 10 (.load (.d (.sl Zb)) (.t 9)) 7 true,
    og 11 (.len (.t 10)) 7 true,
    og 12 (.bin .lss (.t 8) (.t 11)) 7 true,
    o_ 13 (.pick (.t 7) (.t 12) (.c .bool false)),
    mv 4 13]) (BFd)) (BEt)
def Hq.fn:Fn:=⟨2,[.tmp 4],.seq (.reg false [bx 2 0 0,
    o_ 4 (.move (.c .bool false))]) (BTl)⟩
def BT4:Cd:=td [4,5,6,7]
def BIe:Cd:=.ret
def BJ9:Cd:=.seq (.seq (.reg false [ld 4 Za 1,
    mv 5 0,
    o_ 6 (.call (.f 113) [(.t 4),(.t 5)] [.d .bool] [] false),
    nt 7 6,
    mv 3 7]) (BT4)) (BIe)
def Qw.fn:Fn:=⟨2,[.tmp 3],.seq (.reg false [o_ 3 (.move (.c .bool false))]) (BJ9)⟩
def BUi:Cd:=td [6]
def BS2:Cd:=.skip
def ASt:Cd:=.exit 0
def ATa:Cd:=td [11,12]
def ASb:Cd:=td [13,14]
def AQr:Cd:=.ret
def ARm:Cd:=.seq (.reg false [o_ 2 (.move (.c .bool true))]) (AQr)
def ARu:Cd:=.skip
def AR3:Cd:=.cond (.t 15) (.seq (td [15]) (ARm)) (.seq (td [15]) (ARu))
def APq:Cd:=td [16,17]
def AO8:Cd:=.seq (.reg false [mv 16 3,
    mv 17 5,
    on_ (.mapset (.int .i64) .bool (.t 16) (.t 17) (.c .bool true))]) (APq)
def AS5:Cd:=.seq (.seq (.seq (.reg false [mv 13 3,
    mv 14 5,
    o_ 15 (.lookup (.int .i64) .bool (.t 13) (.t 14))]) (ASb)) (AR3)) (AO8)
def APe:Cd:=td [18]
def ARr:Cd:=.seq (.reg false [bc 18 .add 9 1,
    mv 9 18]) (APe)
def BKl:Cd:=.seq (.block 1 (.seq (.seq (.reg false [ix 11 (.sl (.int .i64)) 7 9,
    ld 12 (.int .i64) 11,
    mv 5 12]) (ATa)) (AS5))) (ARr)
def AVe:Cd:=.seq (.cond (.t 10) (.seq (td [10]) (BS2)) (.seq (td [10]) (ASt))) (BKl)
def BLx:Cd:=.tidy [5] [] [] (some 1)
def AOq:Cd:=.seq (.seq (.reg false [bi 10 .lss 9 8]) (AVe)) (BLx)
def BAi:Cd:=.block 0 (.loop (AOq))
def ASm:Cd:=.ret
def AM7:Cd:=.seq (.reg false [o_ 2 (.move (.c .bool false))]) (ASm)
def BIz:Cd:=.seq (.seq (.reg false [mv 7 0,
    le 8 7,
    ci 9 0]) (BAi)) (AM7)
def BQx:Cd:=.seq (.seq (.reg false [o_ 6 (.mkmap 0 (.int .i64) .bool),
    mv 3 6]) (BUi)) (BIz)
def Xv.fn:Fn:=⟨1,[.tmp 2],.seq (.reg false [o_ 2 (.move (.c .bool false))]) (BQx)⟩
def BSf:Cd:=td [3,4]
def BOr:Cd:=.ret
def BNt:Cd:=.seq (.seq (.reg false [mv 3 0,
    o_ 4 (.build Zb [(0,(.c (.int .i64) (1:Int))),(1,(.t 3))] []),
    sr Zb 2 4]) (BSf)) (BOr)
def Qi.fn:Fn:=⟨1,[.cell 2 (.d Zb)],.seq (.reg false [nb 2 0 Zb]) (BNt)⟩
def AXm:Cd:=td [5,6,7,8,9,10,11,12]
def BM9:Cd:=.ret
def AX4:Cd:=.seq (.seq (.reg true [fa 5 Za 3 1,
    ld 6 (.sl Zb) 5,
    mv 7 0,
    ix 8 (.sl Zb) 6 7,
    ld 9 Zb 8,
    ld 10 (.int .i64) 2,
    o_ 11 (.call (.f 115) [(.t 10)] [.d Zb] [] false),
    o_ 12 (.eqs Zb true (.t 9) (.t 11)),
    mv 4 12]) (AXm)) (BM9)
def Qd.fn:Fn:=⟨3,[.tmp 4],.seq (.reg false [o_ 4 (.move (.c .bool false))]) (AX4)⟩
def BQ0:Cd:=td [6,7,8]
def BPy:Cd:=.ret
def AZv:Cd:=.seq (.seq (.reg false [mv 6 0,
    o_ 7 (.func 118 [(.t 2),(.t 4)]),
    o_ 8 (.call (.f 84) [(.t 6),(.t 7)] [.d .bool] [] false),
    mv 5 8]) (BQ0)) (BPy)
def Qm.fn:Fn:=⟨3,[.tmp 5],.seq (.reg false [bx 4 0 1,
    o_ 5 (.move (.c .bool false))]) (AZv)⟩
def BPu:Cd:=td [8]
def AVb:Cd:=.skip
def AQ3:Cd:=.exit 0
def APi:Cd:=td [13,14,15]
def APn:Cd:=td [16,17]
def ARb:Cd:=td [19,20,21,22]
def ARt:Cd:=.seq (.reg false [mv 19 5,
    mv 20 6,
    o_ 21 (.slice 3 (.int .i64) [(.t 20)]),
    o_ 22 (.append 4 (.int .i64) (.t 19) (.t 21)),
    mv 5 22]) (ARb)
def ARh:Cd:=.skip
def AS4:Cd:=.cond (.t 18) (.seq (td [18]) (ARt)) (.seq (td [18]) (ARh))
def AR4:Cd:=.seq (.seq (.reg false [ld 16 Zb 3,
    ld 17 Zb 7,
    o_ 18 (.eqs Zb false (.t 16) (.t 17))]) (APn)) (AS4)
def ARz:Cd:=td [23]
def APx:Cd:=.seq (.reg false [bc 23 .add 11 1,
    mv 11 23]) (ARz)
def AWs:Cd:=.seq (.block 1 (.seq (.seq (.reg false [mv 13 11,
    ix 14 (.sl Zb) 9 11,
    ld 15 Zb 14,
    nb 7 2 Zb,
    mv 6 13,
    sr Zb 7 15]) (APi)) (AR4))) (APx)
def BRs:Cd:=.seq (.cond (.t 12) (.seq (td [12]) (AVb)) (.seq (td [12]) (AQ3))) (AWs)
def BBv:Cd:=.tidy [6,7] [(4,5)] [2,3] (some 6)
def AMn:Cd:=.seq (.seq (.reg false [bi 12 .lss 11 10]) (BRs)) (BBv)
def AVi:Cd:=.block 0 (.loop (AMn))
def ARg:Cd:=td [24]
def ARy:Cd:=.ret
def ANk:Cd:=.seq (.seq (.reg false [mv 24 5,
    mv 4 24]) (ARg)) (ARy)
def AWp:Cd:=.seq (.seq (.seq (.reg false [fa 8 Za 3 2,
    ld 9 (.sl Zb) 8,
    le 10 9,
    ci 11 0]) (BPu)) (AVi)) (ANk)
def AYr:Cd:=.seq (.reg false [o_ 5 (.mknil 5 (.int .i64))]) (AWp)
def Ql.fn:Fn:=⟨2,[.tmp 4],.seq (.reg false [bx 2 0 0,
    bx 3 1 1,
    o_ 4 (.move (.c (.sl (.int .i64)) []))]) (AYr)⟩
def BAc:Cd:=td [6,7,8,9,10,11,12,13,14,15]
def BEx:Cd:=td [16,17,18,19,20,21,22,23,24]
def BSq:Cd:=.ret
def AT8:Cd:=.seq (.seq (.reg true [od 16 (.fieldAddr (.d Zb) 0 (.t 3)) [1] [],
    od 17 (.load (.d (.int .i64)) (.t 16)) [1] [],
    od 18 (.index (.arr 3 (.int .i64)) (.t 5) (.t 17)) [2] [],
    od 19 (.load (.d (.int .i64)) (.t 18)) [2] [],
    od 20 (.load (.d Za) (.t 2)) [0] [],
    od 21 (.load (.d Zb) (.t 3)) [1] [],
    o_ 22 (.call (.f 133) [(.t 20),(.t 21)] [.d (.sl (.int .i64))] [] false),
    le 23 22,
    bi 24 .sub 19 23,
    mv 4 24]) (BEx)) (BSq)
def AUj:Cd:=.seq (.seq (.reg false [fa 6 Za 0 2,
    fa 7 Z6 5 6,
    ld 8 (.int .i64) 7,
    fa 9 Za 0 2,
    fa 10 Z6 6 9,
    ld 11 (.int .i64) 10,
    fa 12 Za 0 2,
    fa 13 Z6 7 12,
    ld 14 (.int .i64) 13,
    o_ 15 (.build (.arr 3 (.int .i64)) [(0,(.t 8)),(1,(.t 11)),(2,(.t 14))] []),
    o_ 5 (.newbox 2 (.arr 3 (.int .i64)) []),
    on_ (.store (.d (.arr 3 (.int .i64))) (.t 5) (.t 15))]) (BAc)) (AT8)
def Jy.fn:Fn:=⟨2,[.tmp 4],.seq (.reg false [bx 2 0 0,
    bx 3 1 1,
    ci 4 0]) (AUj)⟩
def BHz:Cd:=td [3,4,5,6,7,8]
def BLj:Cd:=.ret
def BJf:Cd:=.seq (.seq (.reg false [mv 3 0,
    bc 4 .geq 3 0,
    mv 5 4,
    og 6 (.move (.t 0)) 5 true,
    og 7 (.bin .leq (.t 6) (.c (.int .i64) (1073741824:Int))) 5 true,
    o_ 8 (.pick (.t 5) (.t 7) (.c .bool false)),
    mv 2 8]) (BHz)) (BLj)
def Gu.fn:Fn:=⟨1,[.tmp 2],.seq (.reg false [o_ 2 (.move (.c .bool false))]) (BJf)⟩
def BHt:Cd:=td [12,13,14,15,16,17]
def BQ8:Cd:=td [18,19]
def BLt:Cd:=.ret
def BB8:Cd:=.seq (.seq (.reg false [mv 18 0,
    mv 19 1,
    mv 8 18,
    mv 9 19,
    ci 10 1]) (BQ8)) (BLt)
def BKr:Cd:=td [21,22,23,24,25,26,27,28]
def ASy:Cd:=td [29,30]
def AQu:Cd:=.ret
def AS7:Cd:=.seq (.seq (.reg false [mv 29 0,
    mv 30 1,
    mv 8 29,
    mv 9 30,
    ci 10 10]) (ASy)) (AQu)
def AQ8:Cd:=td [32,33,34,35,36,37,38,39,40,41,42,43,44,45,46,47]
def APc:Cd:=td [48,49]
def AR8:Cd:=.ret
def AS1:Cd:=.seq (.seq (.reg false [mv 48 0,
    mv 49 1,
    mv 8 48,
    mv 9 49,
    ci 10 11]) (APc)) (AR8)
def AO7:Cd:=.skip
def ASg:Cd:=.cond (.t 31) (.seq (td [31]) (AS1)) (.seq (td [31]) (AO7))
def APj:Cd:=.seq (.seq (.reg false [mv 32 0,
    mv 33 2,
    bi 34 .sub 32 33,
    mv 35 3,
    bi 36 .add 34 35,
    o_ 37 (.call (.f 135) [(.t 36)] [.d .bool] [] false),
    nt 38 37,
    mv 39 38,
    og 40 (.move (.t 1)) 39 false,
    og 41 (.move (.t 3)) 39 false,
    og 42 (.bin .sub (.t 40) (.t 41)) 39 false,
    og 43 (.move (.t 2)) 39 false,
    og 44 (.bin .add (.t 42) (.t 43)) 39 false,
    og 45 (.call (.f 135) [(.t 44)] [.d .bool] [] false) 39 false,
    og 46 (.not (.t 45)) 39 false,
    o_ 47 (.pick (.t 39) (.c .bool true) (.t 46)),
    mv 31 47]) (AQ8)) (ASg)
def AYh:Cd:=.cond (.t 20) (.seq (td [20]) (AS7)) (.seq (td [20]) (APj))
def BQ2:Cd:=.seq (.seq (.reg false [mv 21 2,
    mv 22 0,
    bi 23 .gtr 21 22,
    mv 24 23,
    og 25 (.move (.t 3)) 24 false,
    og 26 (.move (.t 1)) 24 false,
    og 27 (.bin .gtr (.t 25) (.t 26)) 24 false,
    o_ 28 (.pick (.t 24) (.c .bool true) (.t 27)),
    mv 20 28]) (BKr)) (AYh)
def BT3:Cd:=.cond (.t 11) (.seq (td [11]) (BB8)) (.seq (td [11]) (BQ2))
def ARo:Cd:=td [50,51,52,53,54,55,56,57,58,59]
def AQb:Cd:=.ret
def BEm:Cd:=.seq (.seq (.reg false [mv 50 0,
    mv 51 2,
    bi 52 .sub 50 51,
    mv 53 3,
    bi 54 .add 52 53,
    mv 55 1,
    mv 56 3,
    bi 57 .sub 55 56,
    mv 58 2,
    bi 59 .add 57 58,
    mv 8 54,
    mv 9 59,
    ci 10 0]) (ARo)) (AQb)
def AY5:Cd:=.seq (.block 0 (.seq (.seq (.reg false [mv 12 2,
    bc 13 .lss 12 0,
    mv 14 13,
    og 15 (.move (.t 3)) 14 false,
    og 16 (.bin .lss (.t 15) (.c (.int .i64) (0:Int))) 14 false,
    o_ 17 (.pick (.t 14) (.c .bool true) (.t 16)),
    mv 11 17]) (BHt)) (BT3))) (BEm)
def K1.fn:Fn:=⟨4,[.tmp 8,.tmp 9,.tmp 10],.seq (.reg false [ci 8 0,
    ci 9 0,
    ci 10 0]) (AY5)⟩
def BO2:Cd:=td [3,4,5,6,7,8,9,10,11,12,13,14]
def BK6:Cd:=td [15]
def BQc:Cd:=.ret
def BLe:Cd:=.seq (.seq (.reg false [ld 15 Za 1,
    sr Za 2 15]) (BK6)) (BQc)
def BLn:Cd:=.seq (.seq (.reg true [od 3 (.fieldAddr (.d Za) 1 (.t 1)) [0] [],
    od 4 (.load (.d (.sl (.int .i64))) (.t 3)) [0] [],
    od 5 (.call (.f 136) [(.t 4)] [.d (.sl (.int .i64))] [((0,[]),2)] false) [] [2],
    od 6 (.fieldAddr (.d Za) 2 (.t 1)) [0] [],
    od 7 (.load (.d (.sl (.int .i64))) (.t 6)) [0] [],
    od 8 (.call (.f 136) [(.t 7)] [.d (.sl (.int .i64))] [((0,[]),3)] false) [] [3],
    od 9 (.fieldAddr (.d Za) 3 (.t 1)) [0] [],
    od 10 (.load (.d (.sl Zb)) (.t 9)) [0] [],
    od 11 (.call (.f 137) [(.t 10)] [.d (.sl Zb)] [((0,[]),4)] false) [] [4],
    od 12 (.fieldAddr (.d Za) 1 (.t 1)) [0] [],
    ⟨none,.store (.d (.sl (.int .i64))) (.t 12) (.t 5),none,[],[0]⟩,
    od 13 (.fieldAddr (.d Za) 2 (.t 1)) [0] [],
    ⟨none,.store (.d (.sl (.int .i64))) (.t 13) (.t 8),none,[],[0]⟩,
    od 14 (.fieldAddr (.d Za) 3 (.t 1)) [0] [],
    ⟨none,.store (.d (.sl Zb)) (.t 14) (.t 11),none,[],[0]⟩]) (BO2)) (BLe)
def J7.fn:Fn:=⟨1,[.cell 2 (.d Za)],.seq (.reg false [bx 1 0 0,
    nb 2 1 Za]) (BLn)⟩
def CFp:Cd:=td [20,21,22,23,24,25,26,27]
def CEn:Cd:=td [28]
def CG8:Cd:=td [30,31,32,33,34,35,36,37,38]
def BBo:Cd:=td [39]
def BY9:Cd:=.ret
def BY3:Cd:=.seq (.seq (.reg false [ld 39 Za 3,
    sr Za 6 39,
    ci 7 3]) (BBo)) (BY9)
def BSc:Cd:=td [41,42,43]
def BEa:Cd:=td [44]
def BQw:Cd:=.ret
def ATy:Cd:=.seq (.seq (.reg false [ld 44 Za 3,
    sr Za 6 44,
    ci 7 12]) (BEa)) (BQw)
def BNw:Cd:=td [46,47,48,49,50,51,52,53,54,55,56]
def AXt:Cd:=td [57]
def AVz:Cd:=.ret
def BDz:Cd:=.seq (.seq (.reg false [ld 57 Za 3,
    sr Za 6 57,
    ci 7 5]) (AXt)) (AVz)
def AVo:Cd:=td [59,60]
def BTe:Cd:=td [61]
def BHo:Cd:=.ret
def BCe:Cd:=.seq (.seq (.reg false [ld 61 Za 3,
    sr Za 6 61,
    ci 7 13]) (BTe)) (BHo)
def BC4:Cd:=td [63,64,65,66,67,68,69,70,71,72,73,74]
def BJi:Cd:=td [75]
def AYf:Cd:=.ret
def BE6:Cd:=.seq (.seq (.reg false [ld 75 Za 3,
    sr Za 6 75,
    ci 7 5]) (BJi)) (AYf)
def BJk:Cd:=.skip
def BI6:Cd:=.cond (.t 62) (.seq (td [62]) (BE6)) (.seq (td [62]) (BJk))
def BIs:Cd:=.seq (.seq (.reg false [mv 63 10,
    fa 64 Zx 5 5,
    o_ 65 (.load (.d (.sl (.int .i64))) (.t 64)),
    mv 66 1,
    o_ 67 (.call (.t 63) [(.t 65),(.t 66)] [.d .bool] [] false),
    mv 68 67,
    og 69 (.move (.t 10)) 68 false,
    og 70 (.fieldAddr (.d Zx) 7 (.t 5)) 68 false,
    og 71 (.load (.d (.sl (.int .i64))) (.t 70)) 68 false,
    og 72 (.move (.t 8)) 68 false,
    og 73 (.call (.t 69) [(.t 71),(.t 72)] [.d .bool] [] false) 68 false,
    o_ 74 (.pick (.t 68) (.c .bool true) (.t 73)),
    mv 62 74]) (BC4)) (BI6)
def BSz:Cd:=.cond (.t 58) (.seq (td [58]) (BCe)) (.seq (td [58]) (BIs))
def AWx:Cd:=.seq (.seq (.reg false [mv 59 9,
    o_ 60 (.call (.f 120) [(.t 59)] [.d .bool] [] false),
    mv 58 60]) (AVo)) (BSz)
def BC2:Cd:=.cond (.t 45) (.seq (td [45]) (BDz)) (.seq (td [45]) (AWx))
def BAr:Cd:=.seq (.seq (.reg true [od 46 (.fieldAddr (.d Za) 1 (.t 3)) [0] [],
    od 47 (.load (.d (.sl (.int .i64))) (.t 46)) [0] [],
    mv 48 8,
    ix 49 (.sl (.int .i64)) 47 48,
    ld 50 (.int .i64) 49,
    od 51 (.fieldAddr (.d Za) 1 (.t 3)) [0] [],
    od 52 (.load (.d (.sl (.int .i64))) (.t 51)) [0] [],
    mv 53 1,
    ix 54 (.sl (.int .i64)) 52 53,
    ld 55 (.int .i64) 54,
    bi 56 .neq 50 55,
    mv 45 56]) (BNw)) (BC2)
def AW8:Cd:=.cond (.t 40) (.seq (td [40]) (ATy)) (.seq (td [40]) (BAr))
def BTi:Cd:=.seq (.seq (.reg false [mv 41 8,
    mv 42 1,
    bi 43 .eql 41 42,
    mv 40 43]) (BSc)) (AW8)
def CDs:Cd:=.cond (.t 29) (.seq (td [29]) (BY3)) (.seq (td [29]) (BTi))
def AZ5:Cd:=td [76,77,78,79,80,81,82]
def BN7:Cd:=td [83,84,85,86,87,88,89,90,91,92,93,94,95,96]
def BIy:Cd:=td [98]
def BI7:Cd:=.ret
def BC8:Cd:=.seq (.seq (.reg false [ld 98 Za 3,
    sr Za 6 98,
    ci 7 9]) (BIy)) (BI7)
def BKw:Cd:=.skip
def AXw:Cd:=.cond (.t 97) (.seq (td [97]) (BC8)) (.seq (td [97]) (BKw))
def BP2:Cd:=td [99,100,101,102,103,104,105,106,107,108,109,110,111,112,113,114,115,116,117]
def BRi:Cd:=td [118]
def BDm:Cd:=td [120,121]
def AVm:Cd:=.ret
def BMp:Cd:=.seq (.seq (.reg false [ld 120 Za 3,
    mv 121 14,
    sr Za 6 120,
    mv 7 121]) (BDm)) (AVm)
def AY0:Cd:=.skip
def BBu:Cd:=.cond (.t 119) (.seq (td [119]) (BMp)) (.seq (td [119]) (AY0))
def BA1:Cd:=td [122,123]
def BG1:Cd:=td [124,125,126,127,128,129,130,131,132,133]
def BT5:Cd:=td [134]
def BNb:Cd:=.skip
def BLg:Cd:=.exit 1
def BG3:Cd:=td [139,140]
def AWg:Cd:=td [141,142,143,144,145,146]
def BF3:Cd:=.seq (.reg true [od 141 (.fieldAddr (.d Za) 3 (.t 15)) [4] [],
    od 142 (.load (.d (.sl Zb)) (.t 141)) [4] [],
    mv 143 17,
    mv 144 8,
    o_ 145 (.call (.f 115) [(.t 144)] [.d Zb] [] false),
    od 146 (.index (.sl Zb) (.t 142) (.t 143)) [6] [],
    ⟨none,.store (.d Zb) (.t 146) (.t 145),none,[],[6]⟩]) (AWg)
def BPv:Cd:=td [147]
def AZ4:Cd:=.seq (.reg false [bc 147 .add 137 1,
    mv 137 147]) (BPv)
def BCq:Cd:=.seq (.block 2 (.seq (.seq (.reg false [ix 139 (.sl (.int .i64)) 135 137,
    ld 140 (.int .i64) 139,
    mv 17 140]) (BG3)) (BF3))) (AZ4)
def BMy:Cd:=.seq (.cond (.t 138) (.seq (td [138]) (BNb)) (.seq (td [138]) (BLg))) (BCq)
def AYv:Cd:=.tidy [17] [] [] (some 7)
def AM3:Cd:=.seq (.seq (.reg false [bi 138 .lss 137 136]) (BMy)) (AYv)
def AVn:Cd:=.block 1 (.loop (AM3))
def BH2:Cd:=td [148]
def BDq:Cd:=.skip
def BP0:Cd:=.exit 3
def BMn:Cd:=td [153,154]
def BHn:Cd:=td [155,156,157,158,159,160]
def BUc:Cd:=.seq (.reg true [od 155 (.fieldAddr (.d Za) 3 (.t 15)) [4] [],
    od 156 (.load (.d (.sl Zb)) (.t 155)) [4] [],
    mv 157 19,
    mv 158 1,
    o_ 159 (.call (.f 115) [(.t 158)] [.d Zb] [] false),
    od 160 (.index (.sl Zb) (.t 156) (.t 157)) [6] [],
    ⟨none,.store (.d Zb) (.t 160) (.t 159),none,[],[6]⟩]) (BHn)
def BM8:Cd:=td [161]
def BKq:Cd:=.seq (.reg false [bc 161 .add 151 1,
    mv 151 161]) (BM8)
def AUb:Cd:=.seq (.block 4 (.seq (.seq (.reg false [ix 153 (.sl (.int .i64)) 149 151,
    ld 154 (.int .i64) 153,
    mv 19 154]) (BMn)) (BUc))) (BKq)
def BRn:Cd:=.seq (.cond (.t 152) (.seq (td [152]) (BDq)) (.seq (td [152]) (BP0))) (AUb)
def BB3:Cd:=.tidy [19] [] [] (some 7)
def ALa:Cd:=.seq (.seq (.reg false [bi 152 .lss 151 150]) (BRn)) (BB3)
def BL5:Cd:=.block 3 (.loop (ALa))
def BUk:Cd:=td [162]
def BKs:Cd:=.ret
def AL7:Cd:=.seq (.seq (.reg false [ld 162 Za 15,
    sr Za 6 162,
    ci 7 0]) (BUk)) (BKs)
def ALz:Cd:=.seq (.seq (.seq (.reg false [fa 148 Zx 7 5,
    o_ 149 (.load (.d (.sl (.int .i64))) (.t 148)),
    le 150 149,
    ci 151 0]) (BH2)) (BL5)) (AL7)
def BIu:Cd:=.seq (.seq (.seq (.reg false [fa 134 Zx 5 5,
    o_ 135 (.load (.d (.sl (.int .i64))) (.t 134)),
    le 136 135,
    ci 137 0]) (BT5)) (AVn)) (ALz)
def AV9:Cd:=.seq (.seq (.reg true [od 124 (.fieldAddr (.d Za) 2 (.t 15)) [4] [],
    od 125 (.load (.d (.sl (.int .i64))) (.t 124)) [4] [],
    mv 126 1,
    od 127 (.fieldAddr (.d Za) 2 (.t 15)) [4] [],
    od 128 (.load (.d (.sl (.int .i64))) (.t 127)) [4] [],
    mv 129 8,
    mv 130 12,
    mv 131 13,
    od 132 (.index (.sl (.int .i64)) (.t 125) (.t 126)) [5] [],
    ⟨none,.store (.d (.int .i64)) (.t 132) (.t 130),none,[],[5]⟩,
    od 133 (.index (.sl (.int .i64)) (.t 128) (.t 129)) [5] [],
    ⟨none,.store (.d (.int .i64)) (.t 133) (.t 131),none,[],[5]⟩]) (BG1)) (BIu)
def BPo:Cd:=.seq (.seq (.reg false [ld 122 Za 3,
    o_ 123 (.call (.f 122) [(.t 122)] [.d Za] [((0,[2]),5),((0,[3]),6)] false),
    nb 15 4 Za,
    sr Za 15 123]) (BA1)) (AV9)
def BLq:Cd:=.seq (.seq (.seq (.reg false [mv 118 14,
    bc 119 .neq 118 0]) (BRi)) (BBu)) (BPo)
def BBb:Cd:=.seq (.seq (.reg true [od 100 (.fieldAddr (.d Za) 2 (.t 3)) [0] [],
    od 101 (.load (.d (.sl (.int .i64))) (.t 100)) [0] [],
    mv 102 1,
    ix 103 (.sl (.int .i64)) 101 102,
    ld 104 (.int .i64) 103,
    od 105 (.fieldAddr (.d Za) 2 (.t 3)) [0] [],
    od 106 (.load (.d (.sl (.int .i64))) (.t 105)) [0] [],
    mv 107 8,
    ix 108 (.sl (.int .i64)) 106 107,
    ld 109 (.int .i64) 108,
    od 110 (.fieldAddr (.d Zx) 6 (.t 5)) [1] [],
    od 111 (.load (.d (.int .i64)) (.t 110)) [1] [],
    od 112 (.fieldAddr (.d Zx) 8 (.t 5)) [1] [],
    od 113 (.load (.d (.int .i64)) (.t 112)) [1] [],
    o_ 114 (.call (.f 121) [(.t 104),(.t 109),(.t 111),(.t 113)] [.d (.int .i64),.d (.int .i64),.d (.int .i64)] [] false),
    mv 99 114,
    xt 115 99 0,
    xt 116 99 1,
    xt 117 99 2,
    mv 12 115,
    mv 13 116,
    mv 14 117]) (BP2)) (BLq)
def AT3:Cd:=.seq (.seq (.seq (.reg true [od 83 (.load (.d Za) (.t 3)) [0] [],
    mv 84 1,
    o_ 85 (.call (.f 115) [(.t 84)] [.d Zb] [] false),
    o_ 86 (.call (.f 106) [(.t 83),(.t 85)] [.d (.int .i64)] [] false),
    mv 87 11,
    bi 88 .lss 86 87,
    mv 89 88,
    ogd 90 (.load (.d Za) (.t 3)) 89 false [0],
    og 91 (.move (.t 8)) 89 false,
    og 92 (.call (.f 115) [(.t 91)] [.d Zb] [] false) 89 false,
    og 93 (.call (.f 106) [(.t 90),(.t 92)] [.d (.int .i64)] [] false) 89 false,
    og 94 (.move (.t 11)) 89 false,
    og 95 (.neg (.t 94)) 89 false,
    og 96 (.bin .lss (.t 93) (.t 95)) 89 false,
    o_ 97 (.pick (.t 89) (.c .bool true) (.t 96))]) (BN7)) (AXw)) (BBb)
def CF4:Cd:=.seq (.seq (.reg false [fa 76 Zx 7 5,
    o_ 77 (.load (.d (.sl (.int .i64))) (.t 76)),
    le 78 77,
    fa 79 Zx 5 5,
    o_ 80 (.load (.d (.sl (.int .i64))) (.t 79)),
    le 81 80,
    bi 82 .sub 78 81,
    mv 11 82]) (AZ5)) (AT3)
def CH4:Cd:=.seq (.block 0 (.seq (.seq (.reg false [ld 30 Za 3,
    mv 31 8,
    o_ 32 (.call (.f 114) [(.t 30),(.t 31)] [.d .bool] [] false),
    nt 33 32,
    mv 34 33,
    og 35 (.move (.t 9)) 34 false,
    og 36 (.func 119 [(.t 3)]) 34 false,
    og 37 (.call (.f 84) [(.t 35),(.t 36)] [.d .bool] [] false) 34 false,
    o_ 38 (.pick (.t 34) (.c .bool true) (.t 37)),
    mv 29 38]) (CG8)) (CDs))) (CF4)
def BZi:Cd:=.seq (.seq (.reg false [o_ 28 (.func 117 [(.t 3)]),
    mv 10 28]) (CEn)) (CH4)
def BZh:Cd:=.seq (.seq (.reg true [od 20 (.fieldAddr (.d Zx) 4 (.t 5)) [1] [],
    od 21 (.load (.d (.int .i64)) (.t 20)) [1] [],
    od 22 (.fieldAddr (.d Zx) 5 (.t 5)) [1] [],
    od 23 (.load (.d (.sl (.int .i64))) (.t 22)) [1] [],
    od 24 (.fieldAddr (.d Zx) 7 (.t 5)) [1] [],
    od 25 (.load (.d (.sl (.int .i64))) (.t 24)) [1] [],
    od 26 (.slice 3 (.sl (.int .i64)) [(.t 23),(.t 25)]) [] [3],
    od 27 (.call (.f 116) [(.t 26)] [.d (.sl (.int .i64))] [] false) [] [3],
    mv 8 21,
    mv 9 27]) (CFp)) (BZi)
def Xd.fn:Fn:=⟨3,[.cell 6 (.d Za),.tmp 7],.seq (.reg false [bx 3 0 0,
    bx 5 1 2,
    nb 6 2 Za,
    ci 7 0]) (BZh)⟩
def CF7:Cd:=td [7]
def CE8:Cd:=td [9,10]
def CCx:Cd:=.ret
def CJ1:Cd:=.seq (.seq (.reg false [mv 9 2,
    o_ 10 (.build Zt [(0,(.t 9))] []),
    sr Zt 6 10]) (CE8)) (CCx)
def CB5:Cd:=.skip
def CF6:Cd:=.cond (.t 8) (.seq (td [8]) (CJ1)) (.seq (td [8]) (CB5))
def CCi:Cd:=td [11,12,13]
def BXy:Cd:=.ret
def CA9:Cd:=.seq (.seq (.reg false [mv 11 0,
    mv 12 1,
    o_ 13 (.build Zt [(1,(.t 11)),(2,(.t 12))] []),
    sr Zt 6 13]) (CCi)) (BXy)
def CH1:Cd:=.seq (.seq (.seq (.reg false [mv 7 2,
    bc 8 .neq 7 0]) (CF7)) (CF6)) (CA9)
def Y5.fn:Fn:=⟨3,[.cell 6 (.d Zt)],.seq (.reg false [nb 6 0 Zt]) (CH1)⟩
def CC0:Cd:=td [11,12,13,14,15,16,17,18]
def CDh:Cd:=td [19,20,21,22,23]
def CCb:Cd:=.ret
def CAk:Cd:=.seq (.seq (.reg true [od 19 (.load (.d Za) (.t 9)) [4] [],
    od 20 (.fieldAddr (.d Zx) 0 (.t 6)) [1] [],
    od 21 (.load (.d (.int .i64)) (.t 20)) [1] [],
    mv 22 10,
    o_ 23 (.call (.f 87) [(.t 21),(.c (.int .i64) (0:Int)),(.t 22)] [.d Zt] [] false),
    ⟨none,.store (.d Za) (.t 7) (.t 19),none,[],[2]⟩,
    ⟨none,.store (.d Zt) (.t 8) (.t 23),none,[],[3]⟩]) (CDh)) (CCb)
def CFj:Cd:=.seq (.seq (.reg false [o_ 12 (.load (.v false 1) (.t 3)),
    ld 13 Za 4,
    mv 14 1,
    ld 15 Zx 6,
    o_ 16 (.call (.t 12) [(.t 13),(.t 14),(.t 15)] [.d Za,.d (.int .i64)] [] false),
    mv 11 16,
    xt 17 11 0,
    xt 18 11 1,
    nb 9 4 Za,
    sr Za 9 17,
    mv 10 18]) (CC0)) (CAk)
def Jm.fn:Fn:=⟨4,[.cell 7 (.d Za),.cell 8 (.d Zt)],.seq (.reg false [bx 4 0 0,
    bx 6 1 2,
    nb 7 2 Za,
    nb 8 3 Zt]) (CFj)⟩
def AX1:Cd:=td [8,9]
def BHf:Cd:=td [10,11,12,13,14]
def BNx:Cd:=td [15]
def BAe:Cd:=.ret
def BIv:Cd:=.seq (.seq (.reg false [ld 15 Za 7,
    sr Za 6 15]) (BNx)) (BAe)
def AT5:Cd:=.seq (.seq (.reg false [fa 10 Za 3 7,
    ld 11 (.sl Zb) 10,
    mv 12 1,
    ld 13 Zb 5,
    ix 14 (.sl Zb) 11 12,
    sr Zb 14 13]) (BHf)) (BIv)
def BF2:Cd:=.seq (.seq (.reg false [ld 8 Za 3,
    o_ 9 (.call (.f 122) [(.t 8)] [.d Za] [((0,[3]),4)] false),
    nb 7 3 Za,
    sr Za 7 9]) (AX1)) (AT5)
def Hu.fn:Fn:=⟨3,[.cell 6 (.d Za)],.seq (.reg false [bx 3 0 0,
    bx 5 1 2,
    nb 6 2 Za]) (BF2)⟩
def CJi:Cd:=td [11,12,13,14,15,16,17,18,19,20]
def CH9:Cd:=td [21]
def BW4:Cd:=.ret
def CJq:Cd:=.seq (.seq (.reg false [ld 21 Za 4,
    sr Za 8 21,
    ci 9 3]) (CH9)) (BW4)
def CJx:Cd:=td [23,24,25]
def BCo:Cd:=td [26]
def BJj:Cd:=.ret
def BR6:Cd:=.seq (.seq (.reg false [ld 26 Za 4,
    sr Za 8 26,
    ci 9 12]) (BCo)) (BJj)
def BK1:Cd:=td [28,29,30,31,32,33,34,35,36,37,38,39,40,41,42,43,44,45,46,47,48]
def BAz:Cd:=td [49]
def BKe:Cd:=.ret
def BGb:Cd:=.seq (.seq (.reg false [ld 49 Za 4,
    sr Za 8 49,
    ci 9 5]) (BAz)) (BKe)
def BPt:Cd:=td [51,52,53,54,55]
def AUk:Cd:=td [56]
def BKy:Cd:=.ret
def BI1:Cd:=.seq (.seq (.reg false [ld 56 Za 4,
    sr Za 8 56,
    ci 9 9]) (AUk)) (BKy)
def AVx:Cd:=.skip
def BUd:Cd:=.cond (.t 50) (.seq (td [50]) (BI1)) (.seq (td [50]) (AVx))
def AUe:Cd:=.seq (.seq (.reg true [od 51 (.load (.d Za) (.t 4)) [0] [],
    mv 52 3,
    o_ 53 (.call (.f 115) [(.t 52)] [.d Zb] [] false),
    o_ 54 (.call (.f 106) [(.t 51),(.t 53)] [.d (.int .i64)] [] false),
    bc 55 .lss 54 1,
    mv 50 55]) (BPt)) (BUd)
def AZ0:Cd:=.cond (.t 27) (.seq (td [27]) (BGb)) (.seq (td [27]) (AUe))
def BAd:Cd:=.seq (.seq (.reg true [od 28 (.fieldAddr (.d Za) 1 (.t 4)) [0] [],
    od 29 (.load (.d (.sl (.int .i64))) (.t 28)) [0] [],
    mv 30 3,
    ix 31 (.sl (.int .i64)) 29 30,
    ld 32 (.int .i64) 31,
    od 33 (.fieldAddr (.d Za) 1 (.t 4)) [0] [],
    od 34 (.load (.d (.sl (.int .i64))) (.t 33)) [0] [],
    mv 35 1,
    ix 36 (.sl (.int .i64)) 34 35,
    ld 37 (.int .i64) 36,
    bi 38 .neq 32 37,
    mv 39 38,
    ogd 40 (.fieldAddr (.d Za) 3 (.t 4)) 39 false [0],
    ogd 41 (.load (.d (.sl Zb)) (.t 40)) 39 false [0],
    og 42 (.move (.t 2)) 39 false,
    og 43 (.index (.sl Zb) (.t 41) (.t 42)) 39 false,
    og 44 (.load (.d Zb) (.t 43)) 39 false,
    og 45 (.move (.t 1)) 39 false,
    og 46 (.call (.f 115) [(.t 45)] [.d Zb] [] false) 39 false,
    og 47 (.eqs Zb true (.t 44) (.t 46)) 39 false,
    o_ 48 (.pick (.t 39) (.c .bool true) (.t 47)),
    mv 27 48]) (BK1)) (AZ0)
def CBo:Cd:=.cond (.t 22) (.seq (td [22]) (BR6)) (.seq (td [22]) (BAd))
def BXw:Cd:=.seq (.seq (.reg false [mv 23 3,
    mv 24 1,
    bi 25 .eql 23 24,
    mv 22 25]) (CJx)) (CBo)
def BU4:Cd:=.cond (.t 10) (.seq (td [10]) (CJq)) (.seq (td [10]) (BXw))
def BKg:Cd:=td [57,58,59,60,61]
def BG2:Cd:=.ret
def BZu:Cd:=.seq (.seq (.reg true [od 57 (.load (.d Za) (.t 4)) [0] [],
    mv 58 2,
    mv 59 3,
    o_ 60 (.call (.f 115) [(.t 59)] [.d Zb] [] false),
    o_ 61 (.call (.f 107) [(.t 57),(.t 58),(.t 60)] [.d Za] [] false),
    ⟨none,.store (.d Za) (.t 8) (.t 61),none,[],[1]⟩,
    ci 9 0]) (BKg)) (BG2)
def BX3:Cd:=.seq (.block 0 (.seq (.seq (.reg false [ld 11 Za 4,
    mv 12 2,
    o_ 13 (.call (.f 113) [(.t 11),(.t 12)] [.d .bool] [] false),
    nt 14 13,
    mv 15 14,
    og 16 (.load (.d Za) (.t 4)) 15 false,
    og 17 (.move (.t 3)) 15 false,
    og 18 (.call (.f 114) [(.t 16),(.t 17)] [.d .bool] [] false) 15 false,
    og 19 (.not (.t 18)) 15 false,
    o_ 20 (.pick (.t 15) (.c .bool true) (.t 19)),
    mv 10 20]) (CJi)) (BU4))) (BZu)
def V9.fn:Fn:=⟨4,[.cell 8 (.d Za),.tmp 9],.seq (.reg false [bx 4 0 0,
    nb 8 1 Za,
    ci 9 0]) (BX3)⟩
def CFn:Cd:=td [8,9,10,11,12,13,14,15,16]
def BZ2:Cd:=.ret
def CIr:Cd:=.seq (.seq (.reg false [ld 8 Za 3,
    mv 9 1,
    fa 10 Zx 2 5,
    ld 11 (.int .i64) 10,
    fa 12 Zx 4 5,
    ld 13 (.int .i64) 12,
    o_ 14 (.call (.f 66) [(.t 8),(.t 9),(.t 11),(.t 13)] [.d Za,.d (.int .i64)] [] false),
    xt 15 14 0,
    xt 16 14 1,
    sr Za 6 15,
    mv 7 16]) (CFn)) (BZ2)
def Jo.fn:Fn:=⟨3,[.cell 6 (.d Za),.tmp 7],.seq (.reg false [bx 3 0 0,
    bx 5 1 2,
    nb 6 2 Za,
    ci 7 0]) (CIr)⟩
def CD4:Cd:=td [5,6,7,8,9,10,11,12,13]
def CIo:Cd:=.ret
def CHr:Cd:=.seq (.seq (.reg false [mv 5 1,
    bc 6 .lss 5 0,
    mv 7 6,
    og 8 (.move (.t 1)) 7 false,
    og 9 (.fieldAddr (.d Za) 3 (.t 2)) 7 false,
    og 10 (.load (.d (.sl Zb)) (.t 9)) 7 false,
    og 11 (.len (.t 10)) 7 false,
    og 12 (.bin .geq (.t 8) (.t 11)) 7 false,
    o_ 13 (.pick (.t 7) (.c .bool true) (.t 12)),
    mv 4 13]) (CD4)) (CIo)
def Js.fn:Fn:=⟨2,[.tmp 4],.seq (.reg false [bx 2 0 0,
    o_ 4 (.move (.c .bool false))]) (CHr)⟩
def BM4:Cd:=td [4,5,6,7,8,9,10,11]
def BCu:Cd:=.ret
def AT0:Cd:=.seq (.seq (.reg false [ld 4 Za 0,
    ld 5 (.int .i64) 1,
    o_ 6 (.call (.f 96) [(.t 4),(.t 5)] [.d .bool] [] false),
    mv 7 6,
    og 8 (.load (.d Za) (.t 0)) 7 false,
    og 9 (.load (.d (.int .i64)) (.t 2)) 7 false,
    og 10 (.call (.f 96) [(.t 8),(.t 9)] [.d .bool] [] false) 7 false,
    o_ 11 (.pick (.t 7) (.c .bool true) (.t 10)),
    mv 3 11]) (BM4)) (BCu)
def Qb.fn:Fn:=⟨3,[.tmp 3],.seq (.reg false [o_ 3 (.move (.c .bool false))]) (AT0)⟩
def CAr:Cd:=td [8,9,10]
def BW2:Cd:=td [11,12,13,14,15,16,17,18,19,20,21,22,23,24]
def BXm:Cd:=.ret
def BXx:Cd:=.seq (.seq (.reg true [od 11 (.load (.d Zb) (.t 7)) [1] [],
    od 12 (.fieldAddr (.d Za) 1 (.t 3)) [0] [],
    od 13 (.load (.d (.sl (.int .i64))) (.t 12)) [0] [],
    mv 14 1,
    ix 15 (.sl (.int .i64)) 13 14,
    ld 16 (.int .i64) 15,
    o_ 17 (.build Zb [(0,(.c (.int .i64) (0:Int))),(1,(.t 16))] []),
    o_ 18 (.eqs Zb false (.t 11) (.t 17)),
    mv 19 18,
    ogd 20 (.load (.d Zb) (.t 7)) 19 false [1],
    og 21 (.move (.t 1)) 19 false,
    og 22 (.build Zb [(0,(.c (.int .i64) (1:Int))),(1,(.t 21))] []) 19 false,
    og 23 (.eqs Zb false (.t 20) (.t 22)) 19 false,
    o_ 24 (.pick (.t 19) (.c .bool true) (.t 23)),
    mv 6 24]) (BW2)) (BXm)
def BWx:Cd:=.seq (.seq (.reg false [ld 8 Za 3,
    mv 9 2,
    o_ 10 (.call (.f 130) [(.t 8),(.t 9)] [.d Zb] [] false),
    nb 7 1 Zb,
    sr Zb 7 10]) (CAr)) (BXx)
def Vp.fn:Fn:=⟨3,[.tmp 6],.seq (.reg false [bx 3 0 0,
    o_ 6 (.move (.c .bool false))]) (BWx)⟩
def BK4:Cd:=td [4,5,6,7,8]
def BC0:Cd:=.ret
def BPq:Cd:=.seq (.seq (.reg false [ld 4 Za 0,
    ld 5 (.int .i64) 1,
    ld 6 (.int .i64) 2,
    o_ 7 (.call (.f 98) [(.t 4),(.t 5),(.t 6)] [.d .bool] [] false),
    nt 8 7,
    mv 3 8]) (BK4)) (BC0)
def Jr.fn:Fn:=⟨3,[.tmp 3],.seq (.reg false [o_ 3 (.move (.c .bool false))]) (BPq)⟩
def BS5:Cd:=td [3,4,5,6,7,8,9]
def BR1:Cd:=.ret
def BQb:Cd:=.seq (.seq (.reg false [fa 3 Za 0 0,
    fa 4 Z6 4 3,
    ld 5 (.sl .bool) 4,
    ld 6 (.int .i64) 1,
    ix 7 (.sl .bool) 5 6,
    ld 8 .bool 7,
    nt 9 8,
    mv 2 9]) (BS5)) (BR1)
def Jf.fn:Fn:=⟨2,[.tmp 2],.seq (.reg false [o_ 2 (.move (.c .bool false))]) (BQb)⟩
def BE7:Cd:=td [4,5,6,7,8,9,10]
def BSt:Cd:=.ret
def BSr:Cd:=.seq (.seq (.reg true [fa 4 Za 3 0,
    ld 5 (.sl Zb) 4,
    ld 6 (.int .i64) 1,
    ix 7 (.sl Zb) 5 6,
    ld 8 Zb 7,
    ld 9 Zb 2,
    o_ 10 (.eqs Zb true (.t 8) (.t 9)),
    mv 3 10]) (BE7)) (BSt)
def Jj.fn:Fn:=⟨3,[.tmp 3],.seq (.reg false [o_ 3 (.move (.c .bool false))]) (BSr)⟩
def BOp:Cd:=td [3,4,5,6]
def BCy:Cd:=.ret
def BI2:Cd:=.seq (.seq (.reg false [ld 3 Za 0,
    ld 4 Zb 1,
    o_ 5 (.call (.f 106) [(.t 3),(.t 4)] [.d (.int .i64)] [] false),
    bc 6 .lss 5 1,
    mv 2 6]) (BOp)) (BCy)
def Jh.fn:Fn:=⟨2,[.tmp 2],.seq (.reg false [o_ 2 (.move (.c .bool false))]) (BI2)⟩
def CGd:Cd:=.skip
def AX2:Cd:=.exit 0
def AUp:Cd:=td [9,10]
def AXz:Cd:=td [11,12]
def BFn:Cd:=td [14,15]
def AZc:Cd:=.ret
def BLo:Cd:=.seq (.seq (.reg false [o_ 14 (.fieldAddr (.v [1,1]) 1 (.t 4)),
    ld 15 (.int .i64) 14,
    mv 2 15]) (BFn)) (AZc)
def BBn:Cd:=.skip
def BAl:Cd:=.cond (.t 13) (.seq (td [13]) (BLo)) (.seq (td [13]) (BBn))
def CHb:Cd:=.seq (.seq (.reg false [o_ 11 (.fieldAddr (.v [1,1]) 0 (.t 4)),
    o_ 12 (.load (.v false 1) (.t 11)),
    o_ 13 (.call (.t 12) [] [.d .bool] [] false)]) (AXz)) (BAl)
def AT6:Cd:=td [16]
def CGw:Cd:=.seq (.reg false [bc 16 .add 7 1,
    mv 7 16]) (AT6)
def CBx:Cd:=.seq (.block 1 (.seq (.seq (.reg false [o_ 9 (.index (.slv 2) (.t 5) (.t 7)),
    o_ 10 (.load (.v true 2) (.t 9)),
    o_ 4 (.newboxv 0 (.agv [.nilfn,.dat (.int .i64) 0 []])),
    on_ (.store (.v true 2) (.t 4) (.t 10))]) (AUp)) (CHb))) (CGw)
def BU2:Cd:=.seq (.cond (.t 8) (.seq (td [8]) (CGd)) (.seq (td [8]) (AX2))) (CBx)
def BVg:Cd:=.tidy [4] [] [] (some 0)
def CA0:Cd:=.seq (.seq (.reg false [bi 8 .lss 7 6]) (BU2)) (BVg)
def BX0:Cd:=.block 0 (.loop (CA0))
def BB0:Cd:=.ret
def BXu:Cd:=.seq (.reg false [ci 2 0]) (BB0)
def CDo:Cd:=.seq (.seq (.reg false [mv 5 0,
    le 6 5,
    ci 7 0]) (BX0)) (BXu)
def Qu.fn:Fn:=⟨1,[.tmp 2],.seq (.reg false [ci 2 0]) (CDo)⟩
def CG3:Cd:=td [13,14,15,16]
def BV4:Cd:=td [17,18,19,20,21,22,23,24,25,26,27,28]
def CHf:Cd:=td [29]
def BOv:Cd:=td [31,32]
def BWy:Cd:=.ret
def BX9:Cd:=.seq (.seq (.reg false [ld 31 Za 4,
    mv 32 12,
    sr Za 8 31,
    mv 9 32]) (BOv)) (BWy)
def BTp:Cd:=.skip
def CFu:Cd:=.cond (.t 30) (.seq (td [30]) (BX9)) (.seq (td [30]) (BTp))
def BLc:Cd:=td [33,34,35,36]
def BGm:Cd:=.ret
def CC9:Cd:=.seq (.seq (.reg false [ld 33 Za 4,
    ld 34 (.int .i64) 6,
    ld 35 Zb 10,
    o_ 36 (.call (.f 107) [(.t 33),(.t 34),(.t 35)] [.d Za] [] false),
    sr Za 8 36,
    ci 9 0]) (BLc)) (BGm)
def CIp:Cd:=.seq (.seq (.seq (.reg false [mv 29 12,
    bc 30 .neq 29 0]) (CHf)) (CFu)) (CC9)
def BYs:Cd:=.seq (.seq (.reg false [o_ 17 (.func 108 [(.t 4),(.t 6),(.t 7)]),
    o_ 18 (.buildv [1,1] [(.t 17),(.c (.int .i64) (3:Int))]),
    o_ 19 (.func 109 [(.t 4),(.t 5),(.t 7)]),
    o_ 20 (.buildv [1,1] [(.t 19),(.c (.int .i64) (5:Int))]),
    o_ 21 (.func 110 [(.t 4),(.t 7)]),
    o_ 22 (.buildv [1,1] [(.t 21),(.c (.int .i64) (6:Int))]),
    o_ 23 (.func 111 [(.t 4),(.t 6),(.t 11)]),
    o_ 24 (.buildv [1,1] [(.t 23),(.c (.int .i64) (5:Int))]),
    o_ 25 (.func 112 [(.t 4),(.t 10)]),
    o_ 26 (.buildv [1,1] [(.t 25),(.c (.int .i64) (9:Int))]),
    o_ 27 (.slicev 2 [(.t 18),(.t 20),(.t 22),(.t 24),(.t 26)]),
    o_ 28 (.call (.f 94) [(.t 27)] [.d (.int .i64)] [] false),
    mv 12 28]) (BV4)) (CIp)
def CEp:Cd:=.seq (.seq (.reg true [od 13 (.load (.d (.int .i64)) (.t 5)) [1] [],
    o_ 14 (.build Zb [(0,(.c (.int .i64) (1:Int))),(1,(.t 13))] []),
    od 15 (.load (.d (.int .i64)) (.t 7)) [3] [],
    o_ 16 (.build Zb [(0,(.c (.int .i64) (2:Int))),(1,(.t 15))] []),
    od 10 (.newbox 5 Zb []) [] [5],
    od 11 (.newbox 6 Zb []) [] [6],
    ⟨none,.store (.d Zb) (.t 10) (.t 14),none,[],[5]⟩,
    ⟨none,.store (.d Zb) (.t 11) (.t 16),none,[],[6]⟩]) (CG3)) (BYs)
def Ka.fn:Fn:=⟨4,[.cell 8 (.d Za),.tmp 9],.seq (.reg false [bx 4 0 0,
    bx 5 1 1,
    bx 6 2 2,
    bx 7 3 3,
    nb 8 4 Za,
    ci 9 0]) (CEp)⟩
def CB6:Cd:=td [8,9,10,11,12,13,14,15,16]
def CBj:Cd:=.ret
def BVf:Cd:=.seq (.seq (.reg false [ld 8 Za 3,
    mv 9 1,
    fa 10 Zx 2 5,
    ld 11 (.int .i64) 10,
    fa 12 Zx 3 5,
    ld 13 (.int .i64) 12,
    o_ 14 (.call (.f 64) [(.t 8),(.t 9),(.t 11),(.t 13)] [.d Za,.d (.int .i64)] [] false),
    xt 15 14 0,
    xt 16 14 1,
    sr Za 6 15,
    mv 7 16]) (CB6)) (CBj)
def Jc.fn:Fn:=⟨3,[.cell 6 (.d Za),.tmp 7],.seq (.reg false [bx 3 0 0,
    bx 5 1 2,
    nb 6 2 Za,
    ci 7 0]) (BVf)⟩
def BZs:Cd:=td [4,5,6,7,8,9,10,11]
def BXq:Cd:=.ret
def BX7:Cd:=.seq (.seq (.reg false [ld 4 Za 0,
    ld 5 (.int .i64) 1,
    o_ 6 (.call (.f 96) [(.t 4),(.t 5)] [.d .bool] [] false),
    mv 7 6,
    og 8 (.load (.d Za) (.t 0)) 7 false,
    og 9 (.load (.d (.int .i64)) (.t 2)) 7 false,
    og 10 (.call (.f 96) [(.t 8),(.t 9)] [.d .bool] [] false) 7 false,
    o_ 11 (.pick (.t 7) (.c .bool true) (.t 10)),
    mv 3 11]) (BZs)) (BXq)
def Qn.fn:Fn:=⟨3,[.tmp 3],.seq (.reg false [o_ 3 (.move (.c .bool false))]) (BX7)⟩
def CDd:Cd:=td [6,7,8,9,10,11,12,13,14,15,16,17,18,19]
def BXh:Cd:=.ret
def CHi:Cd:=.seq (.seq (.reg true [fa 6 Za 3 0,
    ld 7 (.sl Zb) 6,
    ld 8 (.int .i64) 1,
    ix 9 (.sl Zb) 7 8,
    ld 10 Zb 9,
    ld 11 Zb 2,
    o_ 12 (.eqs Zb true (.t 10) (.t 11)),
    mv 13 12,
    og 14 (.load (.d Za) (.t 0)) 13 false,
    og 15 (.load (.d (.int .i64)) (.t 3)) 13 false,
    og 16 (.load (.d (.int .i64)) (.t 4)) 13 false,
    og 17 (.call (.f 98) [(.t 14),(.t 15),(.t 16)] [.d .bool] [] false) 13 false,
    og 18 (.not (.t 17)) 13 false,
    o_ 19 (.pick (.t 13) (.c .bool true) (.t 18)),
    mv 5 19]) (CDd)) (BXh)
def Vd.fn:Fn:=⟨5,[.tmp 5],.seq (.reg false [o_ 5 (.move (.c .bool false))]) (CHi)⟩
def CI4:Cd:=td [3,4,5,6,7,8,9]
def BWi:Cd:=.ret
def CJt:Cd:=.seq (.seq (.reg false [fa 3 Za 0 0,
    fa 4 Z6 4 3,
    ld 5 (.sl .bool) 4,
    ld 6 (.int .i64) 1,
    ix 7 (.sl .bool) 5 6,
    ld 8 .bool 7,
    nt 9 8,
    mv 2 9]) (CI4)) (BWi)
def Vf.fn:Fn:=⟨2,[.tmp 2],.seq (.reg false [o_ 2 (.move (.c .bool false))]) (CJt)⟩
def AYz:Cd:=td [4,5,6,7]
def BIj:Cd:=.ret
def BKp:Cd:=.seq (.seq (.reg false [ld 4 Za 0,
    ld 5 (.int .i64) 1,
    ld 6 (.int .i64) 2,
    o_ 7 (.call (.f 101) [(.t 4),(.t 5),(.t 6)] [.d .bool] [] false),
    mv 3 7]) (AYz)) (BIj)
def J9.fn:Fn:=⟨3,[.tmp 3],.seq (.reg false [o_ 3 (.move (.c .bool false))]) (BKp)⟩
def BR5:Cd:=td [5,6,7,8,9,10]
def BCl:Cd:=.ret
def BIf:Cd:=.seq (.seq (.reg false [ld 5 Za 2,
    mv 6 1,
    o_ 7 (.call (.f 131) [(.t 5),(.t 6)] [.clo 138 [.ref Za,.ref (.int .i64)]] [] false),
    o_ 8 (.call (.f 132) [(.t 7)] [.d (.sl Zb)] [] false),
    le 9 8,
    bc 10 .sub 9 1,
    mv 4 10]) (BR5)) (BCl)
def J2.fn:Fn:=⟨2,[.tmp 4],.seq (.reg false [bx 2 0 0,
    ci 4 0]) (BIf)⟩
def BCb:Cd:=td [7,8]
def AU7:Cd:=.skip
def ASo:Cd:=.exit 0
def APo:Cd:=td [12]
def AQg:Cd:=td [13,14,15]
def ASp:Cd:=td [17,18,19,20,21,22,23,24,25]
def AQa:Cd:=.seq (.reg true [mv 17 5,
    od 18 (.load (.d Za) (.t 2)) [0] [],
    mv 19 6,
    o_ 20 (.call (.f 103) [(.t 18),(.t 19)] [.d (.int .i64)] [] false),
    od 21 (.load (.d Za) (.t 2)) [0] [],
    mv 22 1,
    o_ 23 (.call (.f 103) [(.t 21),(.t 22)] [.d (.int .i64)] [] false),
    bi 24 .sub 20 23,
    o_ 25 (.max [(.t 17),(.t 24)]),
    mv 5 25]) (ASp)
def APz:Cd:=.skip
def AS8:Cd:=.cond (.t 16) (.seq (td [16]) (AQa)) (.seq (td [16]) (APz))
def AR9:Cd:=.seq (.seq (.reg false [ld 13 Za 2,
    mv 14 6,
    mv 15 1,
    o_ 16 (.call (.f 101) [(.t 13),(.t 14),(.t 15)] [.d .bool] [] false)]) (AQg)) (AS8)
def AQs:Cd:=td [26]
def AOz:Cd:=.seq (.reg false [bc 26 .add 10 1,
    mv 10 26]) (AQs)
def AUx:Cd:=.seq (.block 1 (.seq (.seq (.reg false [mv 12 10,
    mv 6 12]) (APo)) (AR9))) (AOz)
def ATz:Cd:=.seq (.cond (.t 11) (.seq (td [11]) (AU7)) (.seq (td [11]) (ASo))) (AUx)
def BJh:Cd:=.tidy [6] [] [] (some 1)
def AMi:Cd:=.seq (.seq (.reg false [bi 11 .lss 10 9]) (ATz)) (BJh)
def AZw:Cd:=.block 0 (.loop (AMi))
def AQ9:Cd:=td [27]
def ARd:Cd:=.ret
def AMl:Cd:=.seq (.seq (.reg false [mv 27 5,
    mv 4 27]) (AQ9)) (ARd)
def AXv:Cd:=.seq (.seq (.seq (.reg false [fa 7 Za 3 2,
    ld 8 (.sl Zb) 7,
    le 9 8,
    ci 10 0]) (BCb)) (AZw)) (AMl)
def AWt:Cd:=.seq (.reg false [ci 5 0]) (AXv)
def Xs.fn:Fn:=⟨2,[.tmp 4],.seq (.reg false [bx 2 0 0,
    ci 4 0]) (AWt)⟩
def BGa:Cd:=td [4,5,6,7,8,9,10,11,12]
def BBa:Cd:=.ret
def AYn:Cd:=.seq (.seq (.reg true [ld 4 Za 0,
    ld 5 (.int .i64) 1,
    o_ 6 (.call (.f 103) [(.t 4),(.t 5)] [.d (.int .i64)] [] false),
    bc 7 .add 6 1,
    ld 8 Za 0,
    ld 9 (.int .i64) 2,
    o_ 10 (.call (.f 104) [(.t 8),(.t 9)] [.d (.int .i64)] [] false),
    bi 11 .add 7 10,
    bc 12 .gtr 11 4,
    mv 3 12]) (BGa)) (BBa)
def Vb.fn:Fn:=⟨3,[.tmp 3],.seq (.reg false [o_ 3 (.move (.c .bool false))]) (AYn)⟩
def BOe:Cd:=td [3,4,5,6]
def AU5:Cd:=.ret
def AYi:Cd:=.seq (.seq (.reg false [ld 3 Za 0,
    ld 4 Zb 1,
    o_ 5 (.call (.f 106) [(.t 3),(.t 4)] [.d (.int .i64)] [] false),
    bc 6 .lss 5 1,
    mv 2 6]) (BOe)) (AU5)
def Va.fn:Fn:=⟨2,[.tmp 2],.seq (.reg false [o_ 2 (.move (.c .bool false))]) (AYi)⟩
def CHa:Cd:=td [13,14,15,16]
def CAa:Cd:=td [17,18,19,20,21,22,23,24,25,26,27,28,29,30]
def BWm:Cd:=td [31]
def BMx:Cd:=td [33,34]
def CAt:Cd:=.ret
def CDm:Cd:=.seq (.seq (.reg false [ld 33 Za 4,
    mv 34 12,
    sr Za 8 33,
    mv 9 34]) (BMx)) (CAt)
def BIr:Cd:=.skip
def CHk:Cd:=.cond (.t 32) (.seq (td [32]) (CDm)) (.seq (td [32]) (BIr))
def BOh:Cd:=td [35,36,37,38]
def BJl:Cd:=.ret
def CEq:Cd:=.seq (.seq (.reg false [ld 35 Za 4,
    ld 36 (.int .i64) 6,
    ld 37 Zb 11,
    o_ 38 (.call (.f 107) [(.t 35),(.t 36),(.t 37)] [.d Za] [] false),
    sr Za 8 38,
    ci 9 0]) (BOh)) (BJl)
def CD6:Cd:=.seq (.seq (.seq (.reg false [mv 31 12,
    bc 32 .neq 31 0]) (BWm)) (CHk)) (CEq)
def BWe:Cd:=.seq (.seq (.reg false [o_ 17 (.func 95 [(.t 4),(.t 6),(.t 7)]),
    o_ 18 (.buildv [1,1] [(.t 17),(.c (.int .i64) (3:Int))]),
    o_ 19 (.func 97 [(.t 4),(.t 6),(.t 10),(.t 5),(.t 7)]),
    o_ 20 (.buildv [1,1] [(.t 19),(.c (.int .i64) (5:Int))]),
    o_ 21 (.func 99 [(.t 4),(.t 7)]),
    o_ 22 (.buildv [1,1] [(.t 21),(.c (.int .i64) (6:Int))]),
    o_ 23 (.func 100 [(.t 4),(.t 7),(.t 6)]),
    o_ 24 (.buildv [1,1] [(.t 23),(.c (.int .i64) (7:Int))]),
    o_ 25 (.func 102 [(.t 4),(.t 7),(.t 6)]),
    o_ 26 (.buildv [1,1] [(.t 25),(.c (.int .i64) (8:Int))]),
    o_ 27 (.func 105 [(.t 4),(.t 11)]),
    o_ 28 (.buildv [1,1] [(.t 27),(.c (.int .i64) (9:Int))]),
    o_ 29 (.slicev 2 [(.t 18),(.t 20),(.t 22),(.t 24),(.t 26),(.t 28)]),
    o_ 30 (.call (.f 94) [(.t 29)] [.d (.int .i64)] [] false),
    mv 12 30]) (CAa)) (CD6)
def BWw:Cd:=.seq (.seq (.reg true [od 13 (.load (.d (.int .i64)) (.t 5)) [1] [],
    o_ 14 (.build Zb [(0,(.c (.int .i64) (1:Int))),(1,(.t 13))] []),
    od 15 (.load (.d (.int .i64)) (.t 7)) [3] [],
    o_ 16 (.build Zb [(0,(.c (.int .i64) (2:Int))),(1,(.t 15))] []),
    od 10 (.newbox 5 Zb []) [] [5],
    od 11 (.newbox 6 Zb []) [] [6],
    ⟨none,.store (.d Zb) (.t 10) (.t 14),none,[],[5]⟩,
    ⟨none,.store (.d Zb) (.t 11) (.t 16),none,[],[6]⟩]) (CHa)) (BWe)
def K0.fn:Fn:=⟨4,[.cell 8 (.d Za),.tmp 9],.seq (.reg false [bx 4 0 0,
    bx 5 1 1,
    bx 6 2 2,
    bx 7 3 3,
    nb 8 4 Za,
    ci 9 0]) (BWw)⟩
def BZl:Cd:=td [8,9,10,11,12,13,14,15,16]
def BWb:Cd:=.ret
def CCe:Cd:=.seq (.seq (.reg false [ld 8 Za 3,
    mv 9 1,
    fa 10 Zx 2 5,
    ld 11 (.int .i64) 10,
    fa 12 Zx 3 5,
    ld 13 (.int .i64) 12,
    o_ 14 (.call (.f 62) [(.t 8),(.t 9),(.t 11),(.t 13)] [.d Za,.d (.int .i64)] [] false),
    xt 15 14 0,
    xt 16 14 1,
    sr Za 6 15,
    mv 7 16]) (BZl)) (BWb)
def Ji.fn:Fn:=⟨3,[.cell 6 (.d Za),.tmp 7],.seq (.reg false [bx 3 0 0,
    bx 5 1 2,
    nb 6 2 Za,
    ci 7 0]) (CCe)⟩
def CAz:Cd:=td [6,7,8,9,10,11,12,13]
def BV6:Cd:=.ret
def BYx:Cd:=.seq (.seq (.reg false [fa 6 Za 1 2,
    o_ 7 (.load (.d (.sl (.int .i64))) (.t 6)),
    mv 8 1,
    ix 9 (.sl (.int .i64)) 7 8,
    ld 10 (.int .i64) 9,
    o_ 11 (.build Zb [(0,(.c (.int .i64) (0:Int))),(1,(.t 10))] []),
    mv 12 1,
    o_ 13 (.build Zb [(0,(.c (.int .i64) (1:Int))),(1,(.t 12))] []),
    sr Zb 4 11,
    sr Zb 5 13]) (CAz)) (BV6)
def Ju.fn:Fn:=⟨2,[.cell 4 (.d Zb),.cell 5 (.d Zb)],.seq (.reg false [bx 2 0 0,
    nb 4 1 Zb,
    nb 5 2 Zb]) (BYx)⟩
def CBa:Cd:=td [11,12,13,14,15,16,17,18,19]
def BVv:Cd:=td [20]
def BZx:Cd:=.ret
def CDq:Cd:=.seq (.seq (.reg false [ld 20 Za 4,
    sr Za 8 20,
    ci 9 3]) (BVv)) (BZx)
def CG2:Cd:=td [22,23,24,25,26,27,28]
def BKz:Cd:=td [29]
def BGw:Cd:=.ret
def BTd:Cd:=.seq (.seq (.reg false [ld 29 Za 4,
    sr Za 8 29,
    ci 9 5]) (BKz)) (BGw)
def AYg:Cd:=td [31,32,33,34]
def BN8:Cd:=td [35]
def BK5:Cd:=.ret
def BPh:Cd:=.seq (.seq (.reg false [ld 35 Za 4,
    sr Za 8 35,
    ci 9 9]) (BN8)) (BK5)
def BOz:Cd:=.skip
def BRb:Cd:=.cond (.t 30) (.seq (td [30]) (BPh)) (.seq (td [30]) (BOz))
def AXu:Cd:=.seq (.seq (.reg false [ld 31 Za 4,
    ld 32 Zb 7,
    o_ 33 (.call (.f 106) [(.t 31),(.t 32)] [.d (.int .i64)] [] false),
    bc 34 .lss 33 1,
    mv 30 34]) (AYg)) (BRb)
def BXv:Cd:=.cond (.t 21) (.seq (td [21]) (BTd)) (.seq (td [21]) (AXu))
def CBz:Cd:=.seq (.seq (.reg true [od 22 (.fieldAddr (.d Za) 3 (.t 4)) [0] [],
    od 23 (.load (.d (.sl Zb)) (.t 22)) [0] [],
    mv 24 1,
    ix 25 (.sl Zb) 23 24,
    ld 26 Zb 25,
    od 27 (.load (.d Zb) (.t 6)) [1] [],
    o_ 28 (.eqs Zb true (.t 26) (.t 27)),
    mv 21 28]) (CG2)) (BXv)
def BWd:Cd:=.cond (.t 10) (.seq (td [10]) (CDq)) (.seq (td [10]) (CBz))
def BTs:Cd:=td [36,37,38,39]
def BAh:Cd:=.ret
def CIx:Cd:=.seq (.seq (.reg false [ld 36 Za 4,
    mv 37 1,
    ld 38 Zb 7,
    o_ 39 (.call (.f 107) [(.t 36),(.t 37),(.t 38)] [.d Za] [] false),
    sr Za 8 39,
    ci 9 0]) (BTs)) (BAh)
def CCa:Cd:=.seq (.block 0 (.seq (.seq (.reg false [mv 11 1,
    bc 12 .lss 11 0,
    mv 13 12,
    og 14 (.move (.t 1)) 13 false,
    og 15 (.fieldAddr (.d Za) 3 (.t 4)) 13 false,
    og 16 (.load (.d (.sl Zb)) (.t 15)) 13 false,
    og 17 (.len (.t 16)) 13 false,
    og 18 (.bin .geq (.t 14) (.t 17)) 13 false,
    o_ 19 (.pick (.t 13) (.c .bool true) (.t 18)),
    mv 10 19]) (CBa)) (BWd))) (CIx)
def Kq.fn:Fn:=⟨4,[.cell 8 (.d Za),.tmp 9],.seq (.reg false [bx 4 0 0,
    bx 6 1 2,
    bx 7 2 3,
    nb 8 3 Za,
    ci 9 0]) (CCa)⟩
def CD7:Cd:=td [10,11,12,13,14,15]
def BUt:Cd:=td [16,17,18,19,20,21,22]
def BWp:Cd:=.ret
def CC6:Cd:=.seq (.seq (.reg false [ld 16 Za 3,
    mv 17 2,
    ld 18 Zb 9,
    ld 19 Zb 8,
    o_ 20 (.call (.f 93) [(.t 16),(.t 17),(.t 18),(.t 19)] [.d Za,.d (.int .i64)] [] false),
    xt 21 20 0,
    xt 22 20 1,
    sr Za 6 21,
    mv 7 22]) (BUt)) (BWp)
def CJn:Cd:=.seq (.seq (.reg false [ld 11 Za 3,
    mv 12 1,
    o_ 13 (.call (.f 92) [(.t 11),(.t 12)] [.d Zb,.d Zb] [] false),
    mv 10 13,
    xt 14 10 0,
    xt 15 10 1,
    nb 8 2 Zb,
    nb 9 3 Zb,
    sr Zb 8 14,
    sr Zb 9 15]) (CD7)) (CC6)
def K8.fn:Fn:=⟨3,[.cell 6 (.d Za),.tmp 7],.seq (.reg false [bx 3 0 0,
    nb 6 1 Za,
    ci 7 0]) (CJn)⟩
def CDz:Cd:=td [8,9,10,11,12,13,14]
def CJu:Cd:=.ret
def CJj:Cd:=.seq (.seq (.reg false [ld 8 Za 3,
    mv 9 1,
    fa 10 Zx 2 5,
    ld 11 (.int .i64) 10,
    o_ 12 (.call (.f 60) [(.t 8),(.t 9),(.t 11)] [.d Za,.d (.int .i64)] [] false),
    xt 13 12 0,
    xt 14 12 1,
    sr Za 6 13,
    mv 7 14]) (CDz)) (CJu)
def Jp.fn:Fn:=⟨3,[.cell 6 (.d Za),.tmp 7],.seq (.reg false [bx 3 0 0,
    bx 5 1 2,
    nb 6 2 Za,
    ci 7 0]) (CJj)⟩
def CBu:Cd:=td [10,11,12,13,14,15]
def CFq:Cd:=td [16,17,18,19,20,21,22]
def CGn:Cd:=.ret
def BZ1:Cd:=.seq (.seq (.reg false [ld 16 Za 3,
    mv 17 2,
    ld 18 Zb 8,
    ld 19 Zb 9,
    o_ 20 (.call (.f 93) [(.t 16),(.t 17),(.t 18),(.t 19)] [.d Za,.d (.int .i64)] [] false),
    xt 21 20 0,
    xt 22 20 1,
    sr Za 6 21,
    mv 7 22]) (CFq)) (CGn)
def CBv:Cd:=.seq (.seq (.reg false [ld 11 Za 3,
    mv 12 1,
    o_ 13 (.call (.f 92) [(.t 11),(.t 12)] [.d Zb,.d Zb] [] false),
    mv 10 13,
    xt 14 10 0,
    xt 15 10 1,
    nb 8 2 Zb,
    nb 9 3 Zb,
    sr Zb 8 14,
    sr Zb 9 15]) (CBu)) (BZ1)
def H8.fn:Fn:=⟨3,[.cell 6 (.d Za),.tmp 7],.seq (.reg false [bx 3 0 0,
    nb 6 1 Za,
    ci 7 0]) (CBv)⟩
def CAc:Cd:=td [8,9,10,11,12,13,14]
def CCl:Cd:=.ret
def CDa:Cd:=.seq (.seq (.reg false [ld 8 Za 3,
    mv 9 1,
    fa 10 Zx 2 5,
    ld 11 (.int .i64) 10,
    o_ 12 (.call (.f 58) [(.t 8),(.t 9),(.t 11)] [.d Za,.d (.int .i64)] [] false),
    xt 13 12 0,
    xt 14 12 1,
    sr Za 6 13,
    mv 7 14]) (CAc)) (CCl)
def Je.fn:Fn:=⟨3,[.cell 6 (.d Za),.tmp 7],.seq (.reg false [bx 3 0 0,
    bx 5 1 2,
    nb 6 2 Za,
    ci 7 0]) (CDa)⟩
def CDe:Cd:=td [7]
def CJz:Cd:=.ret
def BZv:Cd:=.seq (.seq (.reg false [o_ 7 (.func 128 [(.t 5),(.t 3),(.t 4)]),
    mv 6 7]) (CDe)) (CJz)
def Ks.fn:Fn:=⟨3,[.tmp 6],.seq (.reg false [bx 3 0 0,
    bx 4 1 1,
    bx 5 2 2,
    o_ 6 (.move .nf)]) (BZv)⟩
def CGt:Cd:=td [5,6,7,8,9,10,11,12,13]
def BVc:Cd:=.ret
def BYd:Cd:=.seq (.reg false [ci 3 3]) (BVc)
def CGi:Cd:=td [15,16,17]
def BFk:Cd:=.ret
def CI9:Cd:=.seq (.reg false [ci 3 12]) (BFk)
def AUw:Cd:=td [19,20,21,22,23,24,25,26,27,28,29]
def BE9:Cd:=.ret
def BSo:Cd:=.seq (.reg false [ci 3 5]) (BE9)
def BJd:Cd:=.skip
def BJ2:Cd:=.cond (.t 18) (.seq (td [18]) (BSo)) (.seq (td [18]) (BJd))
def BNn:Cd:=.seq (.seq (.reg true [fa 19 Za 1 1,
    o_ 20 (.load (.d (.sl (.int .i64))) (.t 19)),
    ld 21 (.int .i64) 0,
    ix 22 (.sl (.int .i64)) 20 21,
    ld 23 (.int .i64) 22,
    fa 24 Za 1 1,
    o_ 25 (.load (.d (.sl (.int .i64))) (.t 24)),
    ld 26 (.int .i64) 2,
    ix 27 (.sl (.int .i64)) 25 26,
    ld 28 (.int .i64) 27,
    bi 29 .neq 23 28,
    mv 18 29]) (AUw)) (BJ2)
def BW9:Cd:=.cond (.t 14) (.seq (td [14]) (CI9)) (.seq (td [14]) (BNn))
def CC2:Cd:=.seq (.seq (.reg false [ld 15 (.int .i64) 0,
    ld 16 (.int .i64) 2,
    bi 17 .eql 15 16,
    mv 14 17]) (CGi)) (BW9)
def BU7:Cd:=.cond (.t 4) (.seq (td [4]) (BYd)) (.seq (td [4]) (CC2))
def BBm:Cd:=.ret
def CCg:Cd:=.seq (.reg false [ci 3 0]) (BBm)
def CEl:Cd:=.seq (.block 0 (.seq (.seq (.reg false [ld 5 (.int .i64) 0,
    bc 6 .lss 5 0,
    mv 7 6,
    og 8 (.load (.d (.int .i64)) (.t 0)) 7 false,
    og 9 (.fieldAddr (.d Za) 1 (.t 1)) 7 false,
    og 10 (.load (.d (.sl (.int .i64))) (.t 9)) 7 false,
    og 11 (.len (.t 10)) 7 false,
    og 12 (.bin .geq (.t 8) (.t 11)) 7 false,
    o_ 13 (.pick (.t 7) (.c .bool true) (.t 12)),
    mv 4 13]) (CGt)) (BU7))) (CCg)
def Ve.fn:Fn:=⟨3,[.tmp 3],.seq (.reg false [ci 3 0]) (CEl)⟩
def BPa:Cd:=td [9,10,11,12,13,14,15,16]
def AVw:Cd:=td [17,18,19,20]
def BTc:Cd:=.ret
def BM5:Cd:=.seq (.seq (.reg false [mv 17 8,
    o_ 18 (.max [(.t 17),(.c (.int .i64) (0:Int))]),
    mv 19 8,
    bc 20 .geq 19 0,
    mv 6 18,
    mv 7 20]) (AVw)) (BTc)
def AY8:Cd:=.seq (.seq (.reg false [fa 9 Za 0 3,
    fa 10 Z6 0 9,
    o_ 11 (.load (.d (.sl (.arr 4 (.int .i64)))) (.t 10)),
    mv 12 1,
    mv 13 2,
    o_ 14 (.index (.sl (.arr 4 (.int .i64))) (.t 11) (.t 12)),
    o_ 15 (.index (.arr 4 (.int .i64)) (.t 14) (.t 13)),
    ld 16 (.int .i64) 15,
    mv 8 16]) (BPa)) (BM5)
def Vx.fn:Fn:=⟨3,[.tmp 6,.tmp 7],.seq (.reg false [bx 3 0 0,
    ci 6 0,
    o_ 7 (.move (.c .bool false))]) (AY8)⟩
def BGi:Cd:=td [12,13]
def AZ6:Cd:=td [14]
def AT1:Cd:=td [16,17]
def BEw:Cd:=.ret
def AVv:Cd:=.seq (.seq (.reg false [ld 16 Za 2,
    mv 17 8,
    sr Za 5 16,
    ci 6 0,
    mv 7 17]) (AT1)) (BEw)
def BCf:Cd:=.skip
def BD0:Cd:=.cond (.t 15) (.seq (td [15]) (AVv)) (.seq (td [15]) (BCf))
def AXj:Cd:=.seq (.seq (.reg false [mv 14 8,
    bc 15 .neq 14 0]) (AZ6)) (BD0)
def AP2:Cd:=td [18,19,20,21,22,23,24,25,26,27,28]
def ARs:Cd:=td [29]
def AQi:Cd:=td [31]
def AQf:Cd:=.ret
def APa:Cd:=.seq (.seq (.reg false [ld 31 Za 2,
    sr Za 5 31,
    ci 6 0,
    ci 7 4]) (AQi)) (AQf)
def APt:Cd:=.skip
def AP9:Cd:=.cond (.t 30) (.seq (td [30]) (APa)) (.seq (td [30]) (APt))
def APg:Cd:=td [32,33]
def AQx:Cd:=td [34,35,36,37,38]
def AO1:Cd:=td [39,40]
def AP5:Cd:=.ret
def ARw:Cd:=.seq (.seq (.reg false [ld 39 Za 11,
    mv 40 9,
    sr Za 5 39,
    mv 6 40,
    ci 7 0]) (AO1)) (AP5)
def APv:Cd:=.seq (.seq (.reg false [fa 34 Za 1 11,
    o_ 35 (.load (.d (.sl (.int .i64))) (.t 34)),
    mv 36 0,
    mv 37 9,
    ix 38 (.sl (.int .i64)) 35 36,
    sr (.int .i64) 38 37]) (AQx)) (ARw)
def APm:Cd:=.seq (.seq (.reg false [ld 32 Za 2,
    o_ 33 (.call (.f 122) [(.t 32)] [.d Za] [((0,[1]),2)] false),
    nb 11 1 Za,
    sr Za 11 33]) (APg)) (APv)
def AR1:Cd:=.seq (.seq (.seq (.reg false [mv 29 10,
    nt 30 29]) (ARs)) (AP9)) (APm)
def BGs:Cd:=.seq (.seq (.reg true [ld 19 Za 2,
    fa 20 Za 1 2,
    o_ 21 (.load (.d (.sl (.int .i64))) (.t 20)),
    mv 22 0,
    ix 23 (.sl (.int .i64)) 21 22,
    ld 24 (.int .i64) 23,
    ld 25 (.int .i64) 3,
    o_ 26 (.call (.f 129) [(.t 19),(.t 24),(.t 25)] [.d (.int .i64),.d .bool] [] false),
    mv 18 26,
    xt 27 18 0,
    xt 28 18 1,
    mv 9 27,
    mv 10 28]) (AP2)) (AR1)
def AWh:Cd:=.seq (.seq (.seq (.reg false [o_ 12 (.load (.v false 1) (.t 1)),
    o_ 13 (.call (.t 12) [] [.d (.int .i64)] [] false),
    mv 8 13]) (BGi)) (AXj)) (BGs)
def Jg.fn:Fn:=⟨4,[.cell 5 (.d Za),.tmp 6,.tmp 7],.seq (.reg false [nb 5 0 Za,
    ci 6 0,
    ci 7 0]) (AWh)⟩
def CGo:Cd:=.reg true [od 11 (.load (.d Za) (.t 4)) [0] [],
    mv 12 3,
    o_ 13 (.func 90 [(.t 6),(.t 4),(.t 5)]),
    od 14 (.call (.f 88) [(.t 11),(.t 12),(.t 13)] [.clo 128 [.refv (.clo 90 [.ref (.int .i64),.ref Za,.ref (.int .i64)]),.ref Za,.ref (.int .i64)]] [] false) [0,1,2] [],
    od 15 (.load (.d (.int .i64)) (.t 6)) [2] [],
    o_ 16 (.call (.t 14) [(.t 15)] [.d Za,.d (.int .i64),.d (.int .i64)] [] false),
    xt 17 16 0,
    xt 18 16 1,
    xt 19 16 2,
    ⟨none,.store (.d Za) (.t 8) (.t 17),none,[],[3]⟩,
    mv 9 18,
    mv 10 19]
def BUw:Cd:=td [11,12,13,14,15,16,17,18,19]
def CJe:Cd:=.ret
def BX6:Cd:=.seq (.seq (.seq (.frz [0,1,2]) (CGo)) (BUw)) (CJe)
def K7.fn:Fn:=⟨4,[.cell 8 (.d Za),.tmp 9,.tmp 10],.seq (.reg false [bx 4 0 0,
    bx 5 1 1,
    bx 6 2 2,
    nb 8 3 Za,
    ci 9 0,
    ci 10 0]) (BX6)⟩
def CIe:Cd:=td [9,10,11,12,13,14,15,16,17,18]
def BUv:Cd:=.ret
def CJg:Cd:=.seq (.seq (.reg false [ld 9 Za 3,
    mv 10 1,
    fa 11 Zx 4 5,
    ld 12 (.int .i64) 11,
    fa 13 Zx 1 5,
    ld 14 (.int .i64) 13,
    o_ 15 (.call (.f 55) [(.t 9),(.t 10),(.t 12),(.t 14)] [.d Za,.d (.int .i64),.d (.int .i64)] [] false),
    xt 16 15 0,
    xt 17 15 1,
    xt 18 15 2,
    sr Za 6 16,
    mv 7 17,
    mv 8 18]) (CIe)) (BUv)
def Jl.fn:Fn:=⟨3,[.cell 6 (.d Za),.tmp 7,.tmp 8],.seq (.reg false [bx 3 0 0,
    bx 5 1 2,
    nb 6 2 Za,
    ci 7 0,
    ci 8 0]) (CJg)⟩
def CFf:Cd:=td [12,13,14,15,16,17,18,19,20]
def CId:Cd:=td [21,22,23,24,25,26]
def CEa:Cd:=.ret
def CAd:Cd:=.seq (.seq (.reg true [od 21 (.load (.d Za) (.t 9)) [4] [],
    od 22 (.fieldAddr (.d Zx) 0 (.t 6)) [1] [],
    od 23 (.load (.d (.int .i64)) (.t 22)) [1] [],
    mv 24 10,
    mv 25 11,
    o_ 26 (.call (.f 87) [(.t 23),(.t 24),(.t 25)] [.d Zt] [] false),
    ⟨none,.store (.d Za) (.t 7) (.t 21),none,[],[2]⟩,
    ⟨none,.store (.d Zt) (.t 8) (.t 26),none,[],[3]⟩]) (CId)) (CEa)
def CD2:Cd:=.seq (.seq (.reg false [o_ 13 (.load (.v false 1) (.t 3)),
    ld 14 Za 4,
    mv 15 1,
    ld 16 Zx 6,
    o_ 17 (.call (.t 13) [(.t 14),(.t 15),(.t 16)] [.d Za,.d (.int .i64),.d (.int .i64)] [] false),
    mv 12 17,
    xt 18 12 0,
    xt 19 12 1,
    xt 20 12 2,
    nb 9 4 Za,
    sr Za 9 18,
    mv 10 19,
    mv 11 20]) (CFf)) (CAd)
def Jq.fn:Fn:=⟨4,[.cell 7 (.d Za),.cell 8 (.d Zt)],.seq (.reg false [bx 4 0 0,
    bx 6 1 2,
    nb 7 2 Za,
    nb 8 3 Zt]) (CD2)⟩
def CA5:Cd:=.ret
def CAs:Cd:=.seq (.reg false [ci 0 0]) (CA5)
def Vt.fn:Fn:=⟨0,[.tmp 0],.seq (.reg false [ci 0 0]) (CAs)⟩
def BXt:Cd:=td [9,10,11,12,13,14,15,16]
def CJl:Cd:=.ret
def CBh:Cd:=.seq (.seq (.reg false [ld 9 Za 3,
    mv 10 2,
    o_ 11 (.call (.f 88) [(.t 9),(.t 10),(.f 89)] [.clo 128 [.refv (.clo 89 []),.ref Za,.ref (.int .i64)]] [] false),
    mv 12 1,
    o_ 13 (.call (.t 11) [(.t 12)] [.d Za,.d (.int .i64),.d (.int .i64)] [] false),
    xt 14 13 0,
    xt 15 13 1,
    xt 16 13 2,
    sr Za 6 14,
    mv 7 15,
    mv 8 16]) (BXt)) (CJl)
def K4.fn:Fn:=⟨3,[.cell 6 (.d Za),.tmp 7,.tmp 8],.seq (.reg false [bx 3 0 0,
    nb 6 1 Za,
    ci 7 0,
    ci 8 0]) (CBh)⟩
def CI3:Cd:=td [9,10,11,12,13,14,15,16]
def BVq:Cd:=.ret
def CC5:Cd:=.seq (.seq (.reg false [ld 9 Za 3,
    mv 10 1,
    fa 11 Zx 1 5,
    ld 12 (.int .i64) 11,
    o_ 13 (.call (.f 53) [(.t 9),(.t 10),(.t 12)] [.d Za,.d (.int .i64),.d (.int .i64)] [] false),
    xt 14 13 0,
    xt 15 13 1,
    xt 16 13 2,
    sr Za 6 14,
    mv 7 15,
    mv 8 16]) (CI3)) (BVq)
def Jn.fn:Fn:=⟨3,[.cell 6 (.d Za),.tmp 7,.tmp 8],.seq (.reg false [bx 3 0 0,
    bx 5 1 2,
    nb 6 2 Za,
    ci 7 0,
    ci 8 0]) (CC5)⟩
def BXa:Cd:=td [8,9]
def CHy:Cd:=td [11,12]
def CGf:Cd:=.ret
def CBs:Cd:=.seq (.seq (.reg false [ld 11 Za 3,
    o_ 12 (.build Zt [(0,(.c (.int .i64) (2:Int)))] []),
    sr Za 6 11,
    sr Zt 7 12]) (CHy)) (CGf)
def CB4:Cd:=.skip
def BV3:Cd:=.cond (.t 10) (.seq (td [10]) (CBs)) (.seq (td [10]) (CB4))
def CDf:Cd:=td [13,14,15,16,17,18,19,20,21,22]
def CDu:Cd:=.ret
def CGm:Cd:=.seq (.seq (.reg true [o_ 13 (.call (.f 22) [] [.fmap [1,2,3,4,5,6,7,8,9,10] [.clo 86 [.refv (.clo 52 [])],.clo 86 [.refv (.clo 54 [])],.clo 91 [.refv (.clo 57 [])],.clo 91 [.refv (.clo 59 [])],.clo 91 [.refv (.clo 61 [])],.clo 91 [.refv (.clo 63 [])],.clo 91 [.refv (.clo 65 [])],.clo 91 [.refv (.clo 67 [])],.clo 123 [.refv (.clo 69 [])],.clo 123 [.refv (.clo 70 [])]]] [] false),
    od 14 (.fieldAddr (.d Zx) 0 (.t 5)) [1] [],
    od 15 (.load (.d (.int .i64)) (.t 14)) [1] [],
    o_ 16 (.lookv (.t 13) (.t 15) false),
    od 17 (.load (.d Za) (.t 3)) [0] [],
    mv 18 1,
    od 19 (.load (.d Zx) (.t 5)) [1] [],
    o_ 20 (.call (.t 16) [(.t 17),(.t 18),(.t 19)] [.d Za,.d Zt] [] false),
    xt 21 20 0,
    xt 22 20 1,
    ⟨none,.store (.d Za) (.t 6) (.t 21),none,[],[2]⟩,
    ⟨none,.store (.d Zt) (.t 7) (.t 22),none,[],[3]⟩]) (CDf)) (CDu)
def CG9:Cd:=.seq (.seq (.seq (.reg false [ld 8 Zx 5,
    o_ 9 (.call (.f 21) [(.t 8)] [.d .bool] [] false),
    nt 10 9]) (BXa)) (BV3)) (CGm)
def Vh.fn:Fn:=⟨3,[.cell 6 (.d Za),.cell 7 (.d Zt)],.seq (.reg false [bx 3 0 0,
    bx 5 1 2,
    nb 6 2 Za,
    nb 7 3 Zt]) (CG9)⟩
def BXd:Cd:=.skip
def BHv:Cd:=.exit 0
def BMs:Cd:=td [15,16]
def BD5:Cd:=td [17,18,19,20,21,22,23,24,25]
def AV6:Cd:=td [26]
def BRy:Cd:=td [27,28,29,30]
def BOt:Cd:=.seq (.reg false [mv 27 6,
    ld 28 Zt 10,
    o_ 29 (.slice 5 Zt [(.t 28)]),
    o_ 30 (.append 6 Zt (.t 27) (.t 29)),
    mv 6 30]) (BRy)
def BFq:Cd:=.seq (.seq (.reg false [ld 26 Za 9,
    sr Za 2 26]) (AV6)) (BOt)
def BLh:Cd:=.seq (.seq (.reg false [ld 18 Za 2,
    fa 19 Nc 0 8,
    ld 20 (.int .i64) 19,
    fa 21 Nc 1 8,
    ld 22 Zx 21,
    o_ 23 (.call (.f 10) [(.t 18),(.t 20),(.t 22)] [.d Za,.d Zt] [] false),
    mv 17 23,
    xt 24 17 0,
    xt 25 17 1,
    nb 9 3 Za,
    nb 10 4 Zt,
    sr Za 9 24,
    sr Zt 10 25]) (BD5)) (BFq)
def AYw:Cd:=td [31]
def CGv:Cd:=.seq (.reg false [bc 31 .add 13 1,
    mv 13 31]) (AYw)
def BY8:Cd:=.seq (.block 1 (.seq (.seq (.reg false [ix 15 (.sl Nc) 11 13,
    ld 16 Nc 15,
    nb 8 2 Nc,
    sr Nc 8 16]) (BMs)) (BLh))) (CGv)
def CAu:Cd:=.seq (.cond (.t 14) (.seq (td [14]) (BXd)) (.seq (td [14]) (BHv))) (BY8)
def CIz:Cd:=.tidy [8,9,10] [(6,7)] [2,3,4,5] (some 8)
def BWv:Cd:=.seq (.seq (.reg false [bi 14 .lss 13 12]) (CAu)) (CIz)
def CGl:Cd:=.block 0 (.loop (BWv))
def BE5:Cd:=td [32,33]
def BQy:Cd:=.ret
def CIy:Cd:=.seq (.seq (.reg false [ld 32 Za 2,
    mv 33 6,
    sr Za 4 32,
    mv 5 33]) (BE5)) (BQy)
def BYi:Cd:=.seq (.seq (.reg false [mv 11 1,
    le 12 11,
    ci 13 0]) (CGl)) (CIy)
def CDl:Cd:=.seq (.reg false [o_ 6 (.mknil 7 Zt)]) (BYi)
def Re.fn:Fn:=⟨2,[.cell 4 (.d Za),.tmp 5],.seq (.reg false [bx 2 0 0,
    nb 4 1 Za,
    o_ 5 (.move (.c (.sl Zt) []))]) (CDl)⟩
def CH2:Cd:=td [6,7,8,9]
def BWz:Cd:=.ret
def BZ0:Cd:=.seq (.reg false [o_ 4 (.move (.c .bool false))]) (BWz)
def CEy:Cd:=.skip
def CHu:Cd:=.cond (.t 10) (.seq (td [10]) (BZ0)) (.seq (td [10]) (CEy))
def BJp:Cd:=td [11,12,13]
def AYu:Cd:=.skip
def BOa:Cd:=.exit 0
def BEy:Cd:=.cond (.t 14) (.seq (td [14]) (AYu)) (.seq (td [14]) (BOa))
def BN2:Cd:=td [17,18,19,20,21,22,23,24]
def BD6:Cd:=.ret
def BKm:Cd:=.seq (.reg false [o_ 4 (.move (.c .bool false))]) (BD6)
def BI4:Cd:=.skip
def BTy:Cd:=.cond (.t 25) (.seq (td [25]) (BKm)) (.seq (td [25]) (BI4))
def BPp:Cd:=td [15,16]
def BJq:Cd:=.seq (.reg false [mv 15 5,
    bc 16 .add 15 1,
    mv 5 16]) (BPp)
def BOn:Cd:=.seq (.block 1 (.seq (.seq (.reg true [mv 17 0,
    mv 18 5,
    ix 19 (.sl (.int .i64)) 17 18,
    ld 20 (.int .i64) 19,
    mv 21 1,
    mv 22 5,
    ix 23 (.sl (.int .i64)) 21 22,
    ld 24 (.int .i64) 23,
    bi 25 .neq 20 24]) (BN2)) (BTy))) (BJq)
def BAs:Cd:=.tidy [] [] [] (some 0)
def ATm:Cd:=.seq (.seq (.seq (.seq (.reg false [mv 11 5,
    mv 12 0,
    le 13 12,
    bi 14 .lss 11 13]) (BJp)) (BEy)) (BOn)) (BAs)
def BVe:Cd:=.block 0 (.loop (ATm))
def BAa:Cd:=.ret
def ATe:Cd:=.seq (.reg false [o_ 4 (.move (.c .bool true))]) (BAa)
def CAh:Cd:=.seq (.seq (.reg false [ci 5 0]) (BVe)) (ATe)
def CCs:Cd:=.seq (.seq (.seq (.reg false [mv 6 0,
    le 7 6,
    mv 8 1,
    le 9 8,
    bi 10 .neq 7 9]) (CH2)) (CHu)) (CAh)
def Z2.fn:Fn:=⟨2,[.tmp 4],.seq (.reg false [o_ 4 (.move (.c .bool false))]) (CCs)⟩
def BW6:Cd:=td [6,7,8,9]
def CFo:Cd:=.ret
def CH7:Cd:=.seq (.reg false [o_ 4 (.move (.c .bool false))]) (CFo)
def BWu:Cd:=.skip
def CB1:Cd:=.cond (.t 10) (.seq (td [10]) (CH7)) (.seq (td [10]) (BWu))
def BFg:Cd:=td [11,12,13]
def AWm:Cd:=.skip
def BDl:Cd:=.exit 0
def BQm:Cd:=.cond (.t 14) (.seq (td [14]) (AWm)) (.seq (td [14]) (BDl))
def BBk:Cd:=td [17,18,19,20,21,22,23,24]
def AUz:Cd:=.ret
def BM6:Cd:=.seq (.reg false [o_ 4 (.move (.c .bool false))]) (AUz)
def BHc:Cd:=.skip
def BCp:Cd:=.cond (.t 25) (.seq (td [25]) (BM6)) (.seq (td [25]) (BHc))
def BEl:Cd:=td [15,16]
def BJ8:Cd:=.seq (.reg false [mv 15 5,
    bc 16 .add 15 1,
    mv 5 16]) (BEl)
def BTj:Cd:=.seq (.block 1 (.seq (.seq (.reg true [mv 17 0,
    mv 18 5,
    ix 19 (.sl Xn) 17 18,
    ld 20 Xn 19,
    mv 21 1,
    mv 22 5,
    ix 23 (.sl Xn) 21 22,
    ld 24 Xn 23,
    o_ 25 (.eqs Xn true (.t 20) (.t 24))]) (BBk)) (BCp))) (BJ8)
def AX5:Cd:=.tidy [] [] [] (some 0)
def ATd:Cd:=.seq (.seq (.seq (.seq (.reg false [mv 11 5,
    mv 12 0,
    le 13 12,
    bi 14 .lss 11 13]) (BFg)) (BQm)) (BTj)) (AX5)
def BXo:Cd:=.block 0 (.loop (ATd))
def AY1:Cd:=.ret
def ATc:Cd:=.seq (.reg false [o_ 4 (.move (.c .bool true))]) (AY1)
def BYq:Cd:=.seq (.seq (.reg false [ci 5 0]) (BXo)) (ATc)
def CA2:Cd:=.seq (.seq (.seq (.reg false [mv 6 0,
    le 7 6,
    mv 8 1,
    le 9 8,
    bi 10 .neq 7 9]) (BW6)) (CB1)) (BYq)
def Z9.fn:Fn:=⟨2,[.tmp 4],.seq (.reg false [o_ 4 (.move (.c .bool false))]) (CA2)⟩
def BYg:Cd:=td [5,6,7,8,9,10,11,12,13,14,15,16,17,18,19,20,21,22,23,24,25,26,27,28,29,30,31,32,33,34,35,36,37,38,39,40,41,42,43,44]
def CAj:Cd:=.ret
def CG1:Cd:=.seq (.seq (.reg false [fa 5 Zt 0 2,
    ld 6 (.int .i64) 5,
    fa 7 Zt 0 3,
    ld 8 (.int .i64) 7,
    bi 9 .eql 6 8,
    mv 10 9,
    og 11 (.fieldAddr (.d Zt) 1 (.t 2)) 10 true,
    og 12 (.load (.d (.int .i64)) (.t 11)) 10 true,
    og 13 (.fieldAddr (.d Zt) 1 (.t 3)) 10 true,
    og 14 (.load (.d (.int .i64)) (.t 13)) 10 true,
    og 15 (.bin .eql (.t 12) (.t 14)) 10 true,
    o_ 16 (.pick (.t 10) (.t 15) (.c .bool false)),
    mv 17 16,
    og 18 (.fieldAddr (.d Zt) 2 (.t 2)) 17 true,
    og 19 (.load (.d (.int .i64)) (.t 18)) 17 true,
    og 20 (.fieldAddr (.d Zt) 2 (.t 3)) 17 true,
    og 21 (.load (.d (.int .i64)) (.t 20)) 17 true,
    og 22 (.bin .eql (.t 19) (.t 21)) 17 true,
    o_ 23 (.pick (.t 17) (.t 22) (.c .bool false)),
    mv 24 23,
    og 25 (.fieldAddr (.d Zt) 5 (.t 2)) 24 true,
    og 26 (.load (.d (.int .i64)) (.t 25)) 24 true,
    og 27 (.fieldAddr (.d Zt) 5 (.t 3)) 24 true,
    og 28 (.load (.d (.int .i64)) (.t 27)) 24 true,
    og 29 (.bin .eql (.t 26) (.t 28)) 24 true,
    o_ 30 (.pick (.t 24) (.t 29) (.c .bool false)),
    mv 31 30,
    og 32 (.fieldAddr (.d Zt) 3 (.t 2)) 31 true,
    og 33 (.load (.d (.sl (.int .i64))) (.t 32)) 31 true,
    og 34 (.fieldAddr (.d Zt) 3 (.t 3)) 31 true,
    og 35 (.load (.d (.sl (.int .i64))) (.t 34)) 31 true,
    og 36 (.call (.f 33) [(.t 33),(.t 35)] [.d .bool] [] false) 31 true,
    o_ 37 (.pick (.t 31) (.t 36) (.c .bool false)),
    mv 38 37,
    og 39 (.fieldAddr (.d Zt) 4 (.t 2)) 38 true,
    og 40 (.load (.d (.sl Xn)) (.t 39)) 38 true,
    og 41 (.fieldAddr (.d Zt) 4 (.t 3)) 38 true,
    og 42 (.load (.d (.sl Xn)) (.t 41)) 38 true,
    og 43 (.call (.f 35) [(.t 40),(.t 42)] [.d .bool] [] false) 38 true,
    o_ 44 (.pick (.t 38) (.t 43) (.c .bool false)),
    mv 4 44]) (BYg)) (CAj)
def Yf.fn:Fn:=⟨2,[.tmp 4],.seq (.reg false [bx 2 0 0,
    bx 3 1 1,
    o_ 4 (.move (.c .bool false))]) (CG1)⟩
def CKo:Cd:=td [12,13,14,15,16,17,18,19,20]
def CKv:Cd:=td [21,22,23,24,25,26]
def CKc:Cd:=td [4,27,28,29,30,31,32]
def CKw:Cd:=td [33,34,35,36,37,38]
def BU1:Cd:=td [8,39,40,41,42,43,44]
def BYp:Cd:=td [10,45,46,47,48,49,50,51,52,53,54,55,56]
def CI2:Cd:=td [57,58]
def CDt:Cd:=.ret
def CE7:Cd:=.seq (.reg false [o_ 0 (.move (.c .bool false))]) (CDt)
def CF0:Cd:=.skip
def BVw:Cd:=.cond (.t 59) (.seq (td [59]) (CE7)) (.seq (td [59]) (CF0))
def BWc:Cd:=td [60,61,62,63,64,65,66,67,68,69,70,71,72,73,74,75,76,77,78,79,80,81,82,83,84,85,86,87,88,89,90,91,92,93,94,95,96,97,98,99]
def BYj:Cd:=.ret
def CCj:Cd:=.seq (.seq (.reg false [ld 60 Zt 3,
    o_ 61 (.build Zt [(1,(.c (.int .i64) (3:Int)))] []),
    o_ 62 (.call (.f 13) [(.t 60),(.t 61)] [.d .bool] [] false),
    mv 63 62,
    og 64 (.load (.d Zt) (.t 5)) 63 true,
    og 65 (.build Zt [(0,(.c (.int .i64) (5:Int)))] []) 63 true,
    og 66 (.call (.f 13) [(.t 64),(.t 65)] [.d .bool] [] false) 63 true,
    o_ 67 (.pick (.t 63) (.t 66) (.c .bool false)),
    mv 68 67,
    og 69 (.load (.d Zt) (.t 7)) 68 true,
    og 70 (.build Zt [(1,(.c (.int .i64) (2:Int))),(2,(.c (.int .i64) (1:Int)))] []) 68 true,
    og 71 (.call (.f 13) [(.t 69),(.t 70)] [.d .bool] [] false) 68 true,
    o_ 72 (.pick (.t 68) (.t 71) (.c .bool false)),
    mv 73 72,
    og 74 (.fieldAddr (.d Za) 1 (.t 6)) 73 true,
    og 75 (.load (.d (.sl (.int .i64))) (.t 74)) 73 true,
    og 76 (.index (.sl (.int .i64)) (.t 75) (.c (.int .i64) (0:Int))) 73 true,
    og 77 (.load (.d (.int .i64)) (.t 76)) 73 true,
    og 78 (.bin .eql (.t 77) (.c (.int .i64) (1:Int))) 73 true,
    o_ 79 (.pick (.t 73) (.t 78) (.c .bool false)),
    mv 80 79,
    og 81 (.load (.d Zt) (.t 9)) 80 true,
    og 82 (.build Zt [(0,(.c (.int .i64) (2:Int)))] []) 80 true,
    og 83 (.call (.f 13) [(.t 81),(.t 82)] [.d .bool] [] false) 80 true,
    o_ 84 (.pick (.t 80) (.t 83) (.c .bool false)),
    mv 85 84,
    og 86 (.move (.t 11)) 85 true,
    og 87 (.index (.sl Zt) (.t 86) (.c (.int .i64) (2:Int))) 85 true,
    og 88 (.fieldAddr (.d Zt) 4 (.t 87)) 85 true,
    og 89 (.load (.d (.sl Xn)) (.t 88)) 85 true,
    og 90 (.len (.t 89)) 85 true,
    og 91 (.bin .eql (.t 90) (.c (.int .i64) (2:Int))) 85 true,
    o_ 92 (.pick (.t 85) (.t 91) (.c .bool false)),
    mv 93 92,
    og 94 (.move (.t 11)) 93 true,
    og 95 (.index (.sl Zt) (.t 94) (.c (.int .i64) (1:Int))) 93 true,
    og 96 (.fieldAddr (.d Zt) 1 (.t 95)) 93 true,
    og 97 (.load (.d (.int .i64)) (.t 96)) 93 true,
    og 98 (.bin .eql (.t 97) (.c (.int .i64) (5:Int))) 93 true,
    o_ 99 (.pick (.t 93) (.t 98) (.c .bool false)),
    mv 0 99]) (BWc)) (BYj)
def CE3:Cd:=.seq (.seq (.seq (.reg false [mv 57 11,
    le 58 57,
    bc 59 .neq 58 3]) (CI2)) (BVw)) (CCj)
def CKn:Cd:=.seq (.seq (.reg false [ld 46 Za 1,
    o_ 47 (.build Zx [(0,(.c (.int .i64) (3:Int))),(2,(.c (.int .i64) (1:Int)))] []),
    o_ 48 (.build Nc [(1,(.t 47))] []),
    o_ 49 (.build Zx [(0,(.c (.int .i64) (5:Int))),(2,(.c (.int .i64) (1:Int)))] []),
    o_ 50 (.build Nc [(1,(.t 49))] []),
    o_ 51 (.build Zx [(0,(.c (.int .i64) (9:Int)))] []),
    o_ 52 (.build Nc [(0,(.c (.int .i64) (1:Int))),(1,(.t 51))] []),
    o_ 53 (.slice 14 Nc [(.t 48),(.t 50),(.t 52)]),
    o_ 54 (.call (.f 19) [(.t 46),(.t 53)] [.d Za,.d (.sl Zt)] [] false),
    mv 45 54,
    xt 55 45 0,
    xt 56 45 1,
    nb 10 15 Za,
    sr Za 10 55,
    mv 11 56]) (BYp)) (CE3)
def CKa:Cd:=.seq (.seq (.reg false [ld 40 Za 2,
    o_ 41 (.build Zx [(0,(.c (.int .i64) (9:Int))),(2,(.c (.int .i64) (1:Int)))] []),
    o_ 42 (.call (.f 10) [(.t 40),(.c (.int .i64) (0:Int)),(.t 41)] [.d Za,.d Zt] [] false),
    mv 39 42,
    xt 43 39 0,
    xt 44 39 1,
    nb 8 12 Za,
    nb 9 13 Zt,
    sr Za 8 43,
    sr Zt 9 44]) (BU1)) (CKn)
def CKk:Cd:=.seq (.seq (.reg false [ld 34 Za 2,
    o_ 35 (.build Zx [(0,(.c (.int .i64) (2:Int))),(4,(.c (.int .i64) (0:Int)))] []),
    o_ 36 (.call (.f 10) [(.t 34),(.c (.int .i64) (1:Int)),(.t 35)] [.d Za,.d Zt] [] false),
    mv 33 36,
    xt 37 33 0,
    xt 38 33 1,
    nb 6 10 Za,
    nb 7 11 Zt,
    sr Za 6 37,
    sr Zt 7 38]) (CKw)) (CKa)
def CJ5:Cd:=.seq (.seq (.reg false [ld 28 Za 2,
    o_ 29 (.build Zx [(0,(.c (.int .i64) (3:Int))),(2,(.c (.int .i64) (1:Int)))] []),
    o_ 30 (.call (.f 10) [(.t 28),(.c (.int .i64) (1:Int)),(.t 29)] [.d Za,.d Zt] [] false),
    mv 27 30,
    xt 31 27 0,
    xt 32 27 1,
    nb 4 8 Za,
    nb 5 9 Zt,
    sr Za 4 31,
    sr Zt 5 32]) (CKc)) (CKk)
def CKe:Cd:=.seq (.seq (.reg false [ld 22 Za 1,
    o_ 23 (.build Zx [(0,(.c (.int .i64) (3:Int))),(2,(.c (.int .i64) (1:Int)))] []),
    o_ 24 (.call (.f 10) [(.t 22),(.c (.int .i64) (0:Int)),(.t 23)] [.d Za,.d Zt] [] false),
    mv 21 24,
    xt 25 21 0,
    xt 26 21 1,
    nb 2 6 Za,
    nb 3 7 Zt,
    sr Za 2 25,
    sr Zt 3 26]) (CKv)) (CJ5)
def CKq:Cd:=.seq (.seq (.reg false [o_ 12 (.build (.arr 4 (.int .i64)) [(0,(.c (.int .i64) (1:Int))),(1,(.c (.int .i64) ((-1):Int))),(2,(.c (.int .i64) ((-1):Int))),(3,(.c (.int .i64) ((-1):Int)))] []),
    o_ 13 (.build (.arr 4 (.int .i64)) [(0,(.c (.int .i64) ((-1):Int))),(1,(.c (.int .i64) ((-1):Int))),(2,(.c (.int .i64) (0:Int))),(3,(.c (.int .i64) ((-1):Int)))] []),
    o_ 14 (.slice 0 (.arr 4 (.int .i64)) [(.t 12),(.t 13)]),
    o_ 15 (.slice 1 (.int .i64) [(.c (.int .i64) (0:Int)),(.c (.int .i64) (0:Int))]),
    o_ 16 (.slice 2 (.int .i64) [(.c (.int .i64) (5:Int)),(.c (.int .i64) (2:Int))]),
    o_ 17 (.slice 3 (.int .i64) [(.c (.int .i64) (0:Int)),(.c (.int .i64) (0:Int))]),
    o_ 18 (.slice 4 .bool [(.c .bool true),(.c .bool false)]),
    o_ 19 (.build Z6 [(0,(.t 14)),(1,(.t 15)),(2,(.t 16)),(3,(.t 17)),(4,(.t 18)),(5,(.c (.int .i64) (4:Int))),(6,(.c (.int .i64) (2:Int))),(7,(.c (.int .i64) (1:Int)))] []),
    o_ 20 (.call (.f 18) [(.t 19)] [.d Za] [] false),
    nb 1 5 Za,
    sr Za 1 20]) (CKo)) (CKe)
def Yi.fn:Fn:=⟨0,[.tmp 0],.seq (.reg false [o_ 0 (.move (.c .bool false))]) (CKq)⟩
def CB7:Cd:=td [4,5]
def CEs:Cd:=td [6,7,8,9,10,11,12,13,14,15,16,17,18,19,20,21,22,23,24,25,26,27,28,29,30,31,32,33,34,35,36,37,38,39,40,41,42,43,44,45,46,47,48,49,50,51]
def CIk:Cd:=.ret
def CAw:Cd:=.seq (.seq (.reg false [fa 6 Z6 0 3,
    o_ 7 (.load (.d (.sl (.arr 4 (.int .i64)))) (.t 6)),
    le 8 7,
    bc 9 .leq 8 20,
    mv 10 9,
    og 11 (.fieldAddr (.d Z6) 1 (.t 3)) 10 true,
    og 12 (.load (.d (.sl (.int .i64))) (.t 11)) 10 true,
    og 13 (.len (.t 12)) 10 true,
    og 14 (.bin .leq (.t 13) (.c (.int .i64) (20:Int))) 10 true,
    o_ 15 (.pick (.t 10) (.t 14) (.c .bool false)),
    mv 16 15,
    og 17 (.fieldAddr (.d Z6) 2 (.t 3)) 16 true,
    og 18 (.load (.d (.sl (.int .i64))) (.t 17)) 16 true,
    og 19 (.len (.t 18)) 16 true,
    og 20 (.bin .leq (.t 19) (.c (.int .i64) (20:Int))) 16 true,
    o_ 21 (.pick (.t 16) (.t 20) (.c .bool false)),
    mv 22 21,
    og 23 (.fieldAddr (.d Z6) 3 (.t 3)) 22 true,
    og 24 (.load (.d (.sl (.int .i64))) (.t 23)) 22 true,
    og 25 (.len (.t 24)) 22 true,
    og 26 (.bin .leq (.t 25) (.c (.int .i64) (40:Int))) 22 true,
    o_ 27 (.pick (.t 22) (.t 26) (.c .bool false)),
    mv 28 27,
    og 29 (.fieldAddr (.d Z6) 4 (.t 3)) 28 true,
    og 30 (.load (.d (.sl .bool)) (.t 29)) 28 true,
    og 31 (.len (.t 30)) 28 true,
    og 32 (.bin .leq (.t 31) (.c (.int .i64) (40:Int))) 28 true,
    o_ 33 (.pick (.t 28) (.t 32) (.c .bool false)),
    mv 34 33,
    og 35 (.fieldAddr (.d Za) 1 (.t 1)) 34 true,
    og 36 (.load (.d (.sl (.int .i64))) (.t 35)) 34 true,
    og 37 (.len (.t 36)) 34 true,
    og 38 (.bin .leq (.t 37) (.c (.int .i64) (40:Int))) 34 true,
    o_ 39 (.pick (.t 34) (.t 38) (.c .bool false)),
    mv 40 39,
    og 41 (.fieldAddr (.d Za) 2 (.t 1)) 40 true,
    og 42 (.load (.d (.sl (.int .i64))) (.t 41)) 40 true,
    og 43 (.len (.t 42)) 40 true,
    og 44 (.bin .leq (.t 43) (.c (.int .i64) (40:Int))) 40 true,
    o_ 45 (.pick (.t 40) (.t 44) (.c .bool false)),
    mv 46 45,
    og 47 (.fieldAddr (.d Za) 3 (.t 1)) 46 true,
    og 48 (.load (.d (.sl Zb)) (.t 47)) 46 true,
    og 49 (.len (.t 48)) 46 true,
    og 50 (.bin .leq (.t 49) (.c (.int .i64) (40:Int))) 46 true,
    o_ 51 (.pick (.t 46) (.t 50) (.c .bool false)),
    mv 2 51]) (CEs)) (CIk)
def BYa:Cd:=.seq (.seq (.reg false [fa 4 Za 0 1,
    ld 5 Z6 4,
    nb 3 1 Z6,
    sr Z6 3 5]) (CB7)) (CAw)
def Yn.fn:Fn:=⟨1,[.tmp 2],.seq (.reg false [bx 1 0 0,
    o_ 2 (.move (.c .bool false))]) (BYa)⟩
def BZp:Cd:=td [5,6,7,8,9,10,11]
def CGr:Cd:=.ret
def BWl:Cd:=.seq (.seq (.reg false [mv 5 0,
    bc 6 .geq 5 0,
    mv 7 6,
    og 8 (.move (.t 0)) 7 true,
    og 9 (.move (.t 1)) 7 true,
    og 10 (.bin .lss (.t 8) (.t 9)) 7 true,
    o_ 11 (.pick (.t 7) (.t 10) (.c .bool false)),
    mv 4 11]) (BZp)) (CGr)
def Xi.fn:Fn:=⟨2,[.tmp 4],.seq (.reg false [o_ 4 (.move (.c .bool false))]) (BWl)⟩
def BYk:Cd:=td [3,4,5,6,7,8]
def CJr:Cd:=.ret
def CFy:Cd:=.seq (.seq (.reg false [mv 3 0,
    o_ 4 (.bin .leq (.c (.int .i64) (0:Int)) (.t 3)),
    mv 5 4,
    og 6 (.move (.t 0)) 5 true,
    og 7 (.bin .leq (.t 6) (.c (.int .i64) (1073741824:Int))) 5 true,
    o_ 8 (.pick (.t 5) (.t 7) (.c .bool false)),
    mv 2 8]) (BYk)) (CJr)
def X4.fn:Fn:=⟨1,[.tmp 2],.seq (.reg false [o_ 2 (.move (.c .bool false))]) (CFy)⟩
def CIa:Cd:=td [10,11,12]
def CCo:Cd:=td [13,14,15,16,17,18,19,20,21,22,23,24,25,26,27,28,29,30,31,32,33,34,35,36,37,38,39,40,41,42,43,44,45,46,47,48,49,50,51,52,53]
def BY4:Cd:=.ret
def CBn:Cd:=.seq (.reg false [o_ 2 (.move (.c .bool false))]) (BY4)
def CIt:Cd:=.skip
def BVn:Cd:=.cond (.t 54) (.seq (td [54]) (CBn)) (.seq (td [54]) (CIt))
def AWr:Cd:=td [55,56,57,58,59,60,61,62,63,64,65,66,67,68,69]
def AXq:Cd:=.ret
def BGj:Cd:=.seq (.reg false [o_ 2 (.move (.c .bool false))]) (AXq)
def BJg:Cd:=.skip
def BRw:Cd:=.cond (.t 70) (.seq (td [70]) (BGj)) (.seq (td [70]) (BJg))
def BJt:Cd:=td [71,72]
def AU1:Cd:=.skip
def BHb:Cd:=.exit 0
def AZ8:Cd:=.cond (.t 73) (.seq (td [73]) (AU1)) (.seq (td [73]) (BHb))
def BS1:Cd:=td [76]
def AZf:Cd:=.skip
def AZo:Cd:=.exit 2
def BOb:Cd:=.cond (.t 77) (.seq (td [77]) (AZf)) (.seq (td [77]) (AZo))
def AWd:Cd:=td [80,81,82,83,84,85,86,87,88,89,90,91,92,93,94,95,96,97,98]
def BEj:Cd:=.ret
def AWk:Cd:=.seq (.reg false [o_ 2 (.move (.c .bool false))]) (BEj)
def AXr:Cd:=.skip
def BLf:Cd:=.cond (.t 99) (.seq (td [99]) (AWk)) (.seq (td [99]) (AXr))
def BL1:Cd:=td [78,79]
def BKi:Cd:=.seq (.reg false [mv 78 5,
    bc 79 .add 78 1,
    mv 5 79]) (BL1)
def BDu:Cd:=.seq (.block 3 (.seq (.seq (.reg false [fa 80 Z6 0 1,
    o_ 81 (.load (.d (.sl (.arr 4 (.int .i64)))) (.t 80)),
    mv 82 4,
    mv 83 5,
    o_ 84 (.index (.sl (.arr 4 (.int .i64))) (.t 81) (.t 82)),
    o_ 85 (.index (.arr 4 (.int .i64)) (.t 84) (.t 83)),
    ld 86 (.int .i64) 85,
    o_ 87 (.bin .neq (.t 86) (.c (.int .i64) ((-1):Int))),
    mv 88 87,
    og 89 (.fieldAddr (.d Z6) 0 (.t 1)) 88 true,
    og 90 (.load (.d (.sl (.arr 4 (.int .i64)))) (.t 89)) 88 true,
    og 91 (.move (.t 4)) 88 true,
    og 92 (.move (.t 5)) 88 true,
    og 93 (.index (.sl (.arr 4 (.int .i64))) (.t 90) (.t 91)) 88 true,
    og 94 (.index (.arr 4 (.int .i64)) (.t 93) (.t 92)) 88 true,
    og 95 (.load (.d (.int .i64)) (.t 94)) 88 true,
    og 96 (.move (.t 3)) 88 true,
    og 97 (.call (.f 37) [(.t 95),(.t 96)] [.d .bool] [] false) 88 true,
    og 98 (.not (.t 97)) 88 true,
    o_ 99 (.pick (.t 88) (.t 98) (.c .bool false))]) (AWd)) (BLf))) (BKi)
def AUo:Cd:=.tidy [] [] [] (some 1)
def ANm:Cd:=.seq (.seq (.seq (.seq (.reg false [mv 76 5,
    bc 77 .lss 76 4]) (BS1)) (BOb)) (BDu)) (AUo)
def AVd:Cd:=.block 2 (.loop (ANm))
def BNz:Cd:=td [100,101,102,103]
def BPb:Cd:=.skip
def BN5:Cd:=.exit 4
def BLb:Cd:=.cond (.t 104) (.seq (td [104]) (BPb)) (.seq (td [104]) (BN5))
def BLp:Cd:=td [107,108,109,110,111,112]
def BB7:Cd:=td [114,115]
def BRq:Cd:=.seq (.reg false [mv 114 6,
    bc 115 .add 114 1,
    mv 6 115]) (BB7)
def BEo:Cd:=.skip
def BL2:Cd:=.cond (.t 113) (.seq (td [113]) (BRq)) (.seq (td [113]) (BEo))
def BSm:Cd:=td [105,106]
def BSd:Cd:=.seq (.reg false [mv 105 7,
    bc 106 .add 105 1,
    mv 7 106]) (BSm)
def AU3:Cd:=.seq (.block 5 (.seq (.seq (.reg false [fa 107 Z6 3 1,
    o_ 108 (.load (.d (.sl (.int .i64))) (.t 107)),
    mv 109 7,
    ix 110 (.sl (.int .i64)) 108 109,
    ld 111 (.int .i64) 110,
    mv 112 4,
    bi 113 .eql 111 112]) (BLp)) (BL2))) (BSd)
def BB6:Cd:=.tidy [] [] [] (some 1)
def AOl:Cd:=.seq (.seq (.seq (.seq (.reg false [mv 100 7,
    fa 101 Z6 3 1,
    o_ 102 (.load (.d (.sl (.int .i64))) (.t 101)),
    le 103 102,
    bi 104 .lss 100 103]) (BNz)) (BLb)) (AU3)) (BB6)
def BHh:Cd:=.block 4 (.loop (AOl))
def BPk:Cd:=td [116,117,118]
def BK2:Cd:=.ret
def AWv:Cd:=.seq (.reg false [o_ 2 (.move (.c .bool false))]) (BK2)
def AYq:Cd:=.skip
def BD2:Cd:=.cond (.t 119) (.seq (td [119]) (AWv)) (.seq (td [119]) (AYq))
def AL2:Cd:=.seq (.seq (.reg false [mv 116 6,
    fa 117 Z6 5 1,
    ld 118 (.int .i64) 117,
    bi 119 .gtr 116 118]) (BPk)) (BD2)
def AVr:Cd:=.seq (.seq (.reg false [ci 7 0]) (BHh)) (AL2)
def AMu:Cd:=.seq (.reg false [ci 6 0]) (AVr)
def AVg:Cd:=td [74,75]
def Iu:Cd:=.seq (.reg false [mv 74 4,
    bc 75 .add 74 1,
    mv 4 75]) (AVg)
def BGn:Cd:=.seq (.block 1 (.seq (.seq (.reg false [ci 5 0]) (AVd)) (AMu))) (Iu)
def L8:Cd:=.tidy [5,6,7] [] [] (some 1)
def N2:Cd:=.seq (.seq (.seq (.seq (.reg false [mv 71 4,
    mv 72 3,
    bi 73 .lss 71 72]) (BJt)) (AZ8)) (BGn)) (L8)
def BK0:Cd:=.block 0 (.loop (N2))
def BSw:Cd:=td [120,121,122,123]
def AW4:Cd:=.skip
def BOu:Cd:=.exit 6
def BRl:Cd:=.cond (.t 124) (.seq (td [124]) (AW4)) (.seq (td [124]) (BOu))
def BNl:Cd:=td [127,128,129,130,131,132,133,134,135,136,137,138,139,140,141,142]
def BM3:Cd:=.ret
def BL0:Cd:=.seq (.reg false [o_ 2 (.move (.c .bool false))]) (BM3)
def BFh:Cd:=.skip
def BS4:Cd:=.cond (.t 143) (.seq (td [143]) (BL0)) (.seq (td [143]) (BFh))
def BD3:Cd:=td [125,126]
def BOk:Cd:=.seq (.reg false [mv 125 8,
    bc 126 .add 125 1,
    mv 8 126]) (BD3)
def BEf:Cd:=.seq (.block 7 (.seq (.seq (.reg false [fa 127 Z6 1 1,
    o_ 128 (.load (.d (.sl (.int .i64))) (.t 127)),
    mv 129 8,
    ix 130 (.sl (.int .i64)) 128 129,
    ld 131 (.int .i64) 130,
    mv 132 3,
    o_ 133 (.call (.f 37) [(.t 131),(.t 132)] [.d .bool] [] false),
    nt 134 133,
    mv 135 134,
    og 136 (.fieldAddr (.d Z6) 2 (.t 1)) 135 false,
    og 137 (.load (.d (.sl (.int .i64))) (.t 136)) 135 false,
    og 138 (.move (.t 8)) 135 false,
    og 139 (.index (.sl (.int .i64)) (.t 137) (.t 138)) 135 false,
    og 140 (.load (.d (.int .i64)) (.t 139)) 135 false,
    og 141 (.call (.f 38) [(.t 140)] [.d .bool] [] false) 135 false,
    og 142 (.not (.t 141)) 135 false,
    o_ 143 (.pick (.t 135) (.c .bool true) (.t 142))]) (BNl)) (BS4))) (BOk)
def AZl:Cd:=.tidy [] [] [] (some 1)
def AMk:Cd:=.seq (.seq (.seq (.seq (.reg false [mv 120 8,
    fa 121 Z6 1 1,
    o_ 122 (.load (.d (.sl (.int .i64))) (.t 121)),
    le 123 122,
    bi 124 .lss 120 123]) (BSw)) (BRl)) (BEf)) (AZl)
def BAw:Cd:=.block 6 (.loop (AMk))
def AUq:Cd:=td [144,145,146,147]
def BL4:Cd:=.skip
def BC6:Cd:=.exit 8
def BPz:Cd:=.cond (.t 148) (.seq (td [148]) (BL4)) (.seq (td [148]) (BC6))
def AU9:Cd:=td [151,152,153,154,155,156,157]
def BQ1:Cd:=.ret
def BFl:Cd:=.seq (.reg false [o_ 2 (.move (.c .bool false))]) (BQ1)
def BT1:Cd:=.skip
def BG5:Cd:=.cond (.t 158) (.seq (td [158]) (BFl)) (.seq (td [158]) (BT1))
def AZy:Cd:=td [149,150]
def BD1:Cd:=.seq (.reg false [mv 149 9,
    bc 150 .add 149 1,
    mv 9 150]) (AZy)
def AXl:Cd:=.seq (.block 9 (.seq (.seq (.reg false [fa 151 Z6 3 1,
    o_ 152 (.load (.d (.sl (.int .i64))) (.t 151)),
    mv 153 9,
    ix 154 (.sl (.int .i64)) 152 153,
    ld 155 (.int .i64) 154,
    mv 156 3,
    o_ 157 (.call (.f 37) [(.t 155),(.t 156)] [.d .bool] [] false),
    nt 158 157]) (AU9)) (BG5))) (BD1)
def AWb:Cd:=.tidy [] [] [] (some 1)
def ALh:Cd:=.seq (.seq (.seq (.seq (.reg false [mv 144 9,
    fa 145 Z6 3 1,
    o_ 146 (.load (.d (.sl (.int .i64))) (.t 145)),
    le 147 146,
    bi 148 .lss 144 147]) (AUq)) (BPz)) (AXl)) (AWb)
def BS3:Cd:=.block 8 (.loop (ALh))
def BCk:Cd:=.ret
def AOh:Cd:=.seq (.reg false [o_ 2 (.move (.c .bool true))]) (BCk)
def AMr:Cd:=.seq (.seq (.reg false [ci 9 0]) (BS3)) (AOh)
def Kg:Cd:=.seq (.seq (.reg false [ci 8 0]) (BAw)) (AMr)
def CBy:Cd:=.seq (.seq (.reg false [ci 4 0]) (BK0)) (Kg)
def BYe:Cd:=.seq (.seq (.seq (.reg false [fa 55 Z6 5 1,
    ld 56 (.int .i64) 55,
    o_ 57 (.call (.f 37) [(.t 56),(.c (.int .i64) (65:Int))] [.d .bool] [] false),
    nt 58 57,
    mv 59 58,
    og 60 (.fieldAddr (.d Z6) 6 (.t 1)) 59 false,
    og 61 (.load (.d (.int .i64)) (.t 60)) 59 false,
    og 62 (.call (.f 37) [(.t 61),(.c (.int .i64) (65:Int))] [.d .bool] [] false) 59 false,
    og 63 (.not (.t 62)) 59 false,
    o_ 64 (.pick (.t 59) (.c .bool true) (.t 63)),
    mv 65 64,
    og 66 (.fieldAddr (.d Z6) 7 (.t 1)) 65 false,
    og 67 (.load (.d (.int .i64)) (.t 66)) 65 false,
    og 68 (.call (.f 37) [(.t 67),(.c (.int .i64) (65:Int))] [.d .bool] [] false) 65 false,
    og 69 (.not (.t 68)) 65 false,
    o_ 70 (.pick (.t 65) (.c .bool true) (.t 69))]) (AWr)) (BRw)) (CBy)
def CH0:Cd:=.seq (.seq (.seq (.reg false [mv 13 3,
    bc 14 .lss 13 1,
    mv 15 14,
    og 16 (.move (.t 3)) 15 false,
    og 17 (.bin .gtr (.t 16) (.c (.int .i64) (8:Int))) 15 false,
    o_ 18 (.pick (.t 15) (.c .bool true) (.t 17)),
    mv 19 18,
    og 20 (.fieldAddr (.d Z6) 1 (.t 1)) 19 false,
    og 21 (.load (.d (.sl (.int .i64))) (.t 20)) 19 false,
    og 22 (.len (.t 21)) 19 false,
    og 23 (.bin .lss (.t 22) (.c (.int .i64) (1:Int))) 19 false,
    o_ 24 (.pick (.t 19) (.c .bool true) (.t 23)),
    mv 25 24,
    og 26 (.fieldAddr (.d Z6) 1 (.t 1)) 25 false,
    og 27 (.load (.d (.sl (.int .i64))) (.t 26)) 25 false,
    og 28 (.len (.t 27)) 25 false,
    og 29 (.bin .gtr (.t 28) (.c (.int .i64) (6:Int))) 25 false,
    o_ 30 (.pick (.t 25) (.c .bool true) (.t 29)),
    mv 31 30,
    og 32 (.fieldAddr (.d Z6) 2 (.t 1)) 31 false,
    og 33 (.load (.d (.sl (.int .i64))) (.t 32)) 31 false,
    og 34 (.len (.t 33)) 31 false,
    og 35 (.fieldAddr (.d Z6) 1 (.t 1)) 31 false,
    og 36 (.load (.d (.sl (.int .i64))) (.t 35)) 31 false,
    og 37 (.len (.t 36)) 31 false,
    og 38 (.bin .neq (.t 34) (.t 37)) 31 false,
    o_ 39 (.pick (.t 31) (.c .bool true) (.t 38)),
    mv 40 39,
    og 41 (.fieldAddr (.d Z6) 3 (.t 1)) 40 false,
    og 42 (.load (.d (.sl (.int .i64))) (.t 41)) 40 false,
    og 43 (.len (.t 42)) 40 false,
    og 44 (.bin .gtr (.t 43) (.c (.int .i64) (16:Int))) 40 false,
    o_ 45 (.pick (.t 40) (.c .bool true) (.t 44)),
    mv 46 45,
    og 47 (.fieldAddr (.d Z6) 4 (.t 1)) 46 false,
    og 48 (.load (.d (.sl .bool)) (.t 47)) 46 false,
    og 49 (.len (.t 48)) 46 false,
    og 50 (.fieldAddr (.d Z6) 3 (.t 1)) 46 false,
    og 51 (.load (.d (.sl (.int .i64))) (.t 50)) 46 false,
    og 52 (.len (.t 51)) 46 false,
    og 53 (.bin .neq (.t 49) (.t 52)) 46 false,
    o_ 54 (.pick (.t 46) (.c .bool true) (.t 53))]) (CCo)) (BVn)) (BYe)
def CE0:Cd:=.seq (.seq (.reg false [fa 10 Z6 0 1,
    o_ 11 (.load (.d (.sl (.arr 4 (.int .i64)))) (.t 10)),
    le 12 11,
    mv 3 12]) (CIa)) (CH0)
def Zc.fn:Fn:=⟨1,[.tmp 2],.seq (.reg false [bx 1 0 0,
    o_ 2 (.move (.c .bool false))]) (CE0)⟩
def CDn:Cd:=td [6,7]
def BWr:Cd:=.skip
def AUu:Cd:=.exit 0
def BZ5:Cd:=.cond (.t 8) (.seq (td [8]) (BWr)) (.seq (td [8]) (AUu))
def BCm:Cd:=td [9,10]
def BGx:Cd:=td [11]
def BCn:Cd:=.ret
def BMf:Cd:=.seq (.reg false [ci 4 99]) (BCn)
def BPg:Cd:=.skip
def BEs:Cd:=.cond (.t 12) (.seq (td [12]) (BMf)) (.seq (td [12]) (BPg))
def AW0:Cd:=td [13,14,15,16,17,18]
def BMm:Cd:=.seq (.reg false [fa 13 Za 3 2,
    ld 14 (.sl Zb) 13,
    fa 15 Zb 1 3,
    ld 16 (.int .i64) 15,
    ix 17 (.sl Zb) 14 16,
    ld 18 Zb 17,
    sr Zb 3 18]) (AW0)
def CI6:Cd:=.seq (.seq (.seq (.reg false [mv 11 5,
    bc 12 .gtr 11 50]) (BGx)) (BEs)) (BMm)
def BYh:Cd:=.block 1 (.seq (.seq (.reg false [mv 9 5,
    bc 10 .add 9 1,
    mv 5 10]) (BCm)) (CI6))
def BXr:Cd:=.tidy [] [] [] (some 2)
def ATi:Cd:=.seq (.seq (.seq (.seq (.reg false [fa 6 Zb 0 3,
    ld 7 (.int .i64) 6,
    bc 8 .eql 7 2]) (CDn)) (BZ5)) (BYh)) (BXr)
def BMz:Cd:=td [19]
def BUa:Cd:=.ret
def ATk:Cd:=.seq (.seq (.reg false [mv 19 5,
    mv 4 19]) (BMz)) (BUa)
def CJv:Cd:=.seq (.block 0 (.loop (ATi))) (ATk)
def BXb:Cd:=.seq (.reg false [ci 5 0]) (CJv)
def Z7.fn:Fn:=⟨2,[.tmp 4],.seq (.reg false [bx 2 0 0,
    bx 3 1 1,
    ci 4 0]) (BXb)⟩
def CDj:Cd:=td [7,8,9,10]
def CGh:Cd:=.skip
def AZu:Cd:=.exit 0
def CAy:Cd:=.cond (.t 11) (.seq (td [11]) (CGh)) (.seq (td [11]) (AZu))
def BMa:Cd:=td [14,15,16,17,18,19]
def BOs:Cd:=td [21,22]
def BRt:Cd:=.seq (.reg false [mv 21 5,
    bc 22 .add 21 1,
    mv 5 22]) (BOs)
def BK3:Cd:=.skip
def BN9:Cd:=.cond (.t 20) (.seq (td [20]) (BRt)) (.seq (td [20]) (BK3))
def AY2:Cd:=td [12,13]
def BO4:Cd:=.seq (.reg false [mv 12 6,
    bc 13 .add 12 1,
    mv 6 13]) (AY2)
def CF1:Cd:=.seq (.block 1 (.seq (.seq (.reg true [od 14 (.fieldAddr (.d Za) 3 (.t 2)) [0] [],
    od 15 (.load (.d (.sl Zb)) (.t 14)) [0] [],
    mv 16 6,
    ix 17 (.sl Zb) 15 16,
    ld 18 Zb 17,
    od 19 (.load (.d Zb) (.t 3)) [1] [],
    o_ 20 (.eqs Zb false (.t 18) (.t 19))]) (BMa)) (BN9))) (BO4)
def CC7:Cd:=.tidy [] [] [] (some 2)
def ATw:Cd:=.seq (.seq (.seq (.seq (.reg false [mv 7 6,
    fa 8 Za 3 2,
    ld 9 (.sl Zb) 8,
    le 10 9,
    bi 11 .lss 7 10]) (CDj)) (CAy)) (CF1)) (CC7)
def BWg:Cd:=.block 0 (.loop (ATw))
def BRf:Cd:=td [23]
def BCa:Cd:=.ret
def ATr:Cd:=.seq (.seq (.reg false [mv 23 5,
    mv 4 23]) (BRf)) (BCa)
def CFm:Cd:=.seq (.seq (.reg false [ci 6 0]) (BWg)) (ATr)
def BV2:Cd:=.seq (.reg false [ci 5 0]) (CFm)
def Z8.fn:Fn:=⟨2,[.tmp 4],.seq (.reg false [bx 2 0 0,
    bx 3 1 1,
    ci 4 0]) (BV2)⟩
def CEz:Cd:=td [5,6,7,8,9,10,11,12,13,14,15,16,17,18]
def CBw:Cd:=.ret
def CEe:Cd:=.seq (.seq (.reg false [fa 5 Za 0 2,
    fa 6 Z6 5 5,
    ld 7 (.int .i64) 6,
    fa 8 Za 0 2,
    fa 9 Z6 6 8,
    ld 10 (.int .i64) 9,
    fa 11 Za 0 2,
    fa 12 Z6 7 11,
    ld 13 (.int .i64) 12,
    o_ 14 (.slice 2 (.int .i64) [(.t 7),(.t 10),(.t 13)]),
    fa 15 Zb 0 3,
    ld 16 (.int .i64) 15,
    ix 17 (.sl (.int .i64)) 14 16,
    ld 18 (.int .i64) 17,
    mv 4 18]) (CEz)) (CBw)
def Yo.fn:Fn:=⟨2,[.tmp 4],.seq (.reg false [bx 2 0 0,
    bx 3 1 1,
    ci 4 0]) (CEe)⟩
def BX8:Cd:=td [9,10]
def CDp:Cd:=td [11,12,13,14,15,16,17,18,19,20,21,22,23,24,25,26,27,28,29,30,31,32,33,34,35,36,37,38,39]
def BWj:Cd:=.ret
def CEi:Cd:=.seq (.reg false [o_ 2 (.move (.c .bool false))]) (BWj)
def BV9:Cd:=.skip
def CAb:Cd:=.cond (.t 40) (.seq (td [40]) (CEi)) (.seq (td [40]) (BV9))
def BHp:Cd:=td [41,42,43,44]
def AV2:Cd:=.skip
def BTb:Cd:=.exit 0
def BBe:Cd:=.cond (.t 45) (.seq (td [45]) (AV2)) (.seq (td [45]) (BTb))
def AZ2:Cd:=td [48,49,50,51,52,53,54,55,56,57,58,59,60,61,62,63,64,65]
def BBp:Cd:=.ret
def AZj:Cd:=.seq (.reg false [o_ 2 (.move (.c .bool false))]) (BBp)
def BHa:Cd:=.skip
def BSk:Cd:=.cond (.t 66) (.seq (td [66]) (AZj)) (.seq (td [66]) (BHa))
def AZ1:Cd:=td [46,47]
def BKn:Cd:=.seq (.reg false [mv 46 4,
    bc 47 .add 46 1,
    mv 4 47]) (AZ1)
def BRv:Cd:=.seq (.block 1 (.seq (.seq (.reg true [od 48 (.fieldAddr (.d Za) 1 (.t 1)) [0] [],
    od 49 (.load (.d (.sl (.int .i64))) (.t 48)) [0] [],
    mv 50 4,
    ix 51 (.sl (.int .i64)) 49 50,
    ld 52 (.int .i64) 51,
    od 53 (.fieldAddr (.d Z6) 0 (.t 3)) [1] [],
    od 54 (.load (.d (.sl (.arr 4 (.int .i64)))) (.t 53)) [1] [],
    le 55 54,
    o_ 56 (.call (.f 37) [(.t 52),(.t 55)] [.d .bool] [] false),
    nt 57 56,
    mv 58 57,
    ogd 59 (.fieldAddr (.d Za) 2 (.t 1)) 58 false [0],
    ogd 60 (.load (.d (.sl (.int .i64))) (.t 59)) 58 false [0],
    og 61 (.move (.t 4)) 58 false,
    og 62 (.index (.sl (.int .i64)) (.t 60) (.t 61)) 58 false,
    og 63 (.load (.d (.int .i64)) (.t 62)) 58 false,
    og 64 (.call (.f 38) [(.t 63)] [.d .bool] [] false) 58 false,
    og 65 (.not (.t 64)) 58 false,
    o_ 66 (.pick (.t 58) (.c .bool true) (.t 65))]) (AZ2)) (BSk))) (BKn)
def BOq:Cd:=.tidy [] [] [] (some 2)
def ALs:Cd:=.seq (.seq (.seq (.seq (.reg false [mv 41 4,
    fa 42 Za 1 1,
    o_ 43 (.load (.d (.sl (.int .i64))) (.t 42)),
    le 44 43,
    bi 45 .lss 41 44]) (BHp)) (BBe)) (BRv)) (BOq)
def BQo:Cd:=.block 0 (.loop (ALs))
def BF9:Cd:=td [67,68,69,70]
def BIk:Cd:=.skip
def BCs:Cd:=.exit 2
def BOw:Cd:=.cond (.t 71) (.seq (td [71]) (BIk)) (.seq (td [71]) (BCs))
def BNq:Cd:=td [74,75,76,77,78]
def AUd:Cd:=td [79,80,81,82,83,84,85,86,87,88,89,90,91,92,93,94,95,96,97,98,99,100,101,102,103,104,105,106,107,108,109,110,111,112,113,114,115,116,117,118,119,120,121,122,123]
def BGo:Cd:=td [124]
def BJv:Cd:=.ret
def AW2:Cd:=.seq (.reg false [o_ 2 (.move (.c .bool false))]) (BJv)
def BAm:Cd:=.skip
def BNk:Cd:=.cond (.t 125) (.seq (td [125]) (AW2)) (.seq (td [125]) (BAm))
def BEi:Cd:=.seq (.seq (.reg false [mv 124 7,
    nt 125 124]) (BGo)) (BNk)
def BHj:Cd:=.seq (.seq (.reg false [fa 79 Zb 0 6,
    ld 80 (.int .i64) 79,
    bc 81 .eql 80 0,
    mv 82 81,
    og 83 (.fieldAddr (.d Zb) 1 (.t 6)) 82 true,
    og 84 (.load (.d (.int .i64)) (.t 83)) 82 true,
    og 85 (.fieldAddr (.d Z6) 0 (.t 3)) 82 true,
    og 86 (.load (.d (.sl (.arr 4 (.int .i64)))) (.t 85)) 82 true,
    og 87 (.len (.t 86)) 82 true,
    og 88 (.call (.f 37) [(.t 84),(.t 87)] [.d .bool] [] false) 82 true,
    o_ 89 (.pick (.t 82) (.t 88) (.c .bool false)),
    mv 90 89,
    og 91 (.fieldAddr (.d Zb) 0 (.t 6)) 90 false,
    og 92 (.load (.d (.int .i64)) (.t 91)) 90 false,
    og 93 (.bin .eql (.t 92) (.c (.int .i64) (1:Int))) 90 false,
    og 94 (.move (.t 93)) 90 false,
    og 95 (.fieldAddr (.d Zb) 1 (.t 6)) 94 true,
    og 96 (.load (.d (.int .i64)) (.t 95)) 94 true,
    og 97 (.fieldAddr (.d Z6) 1 (.t 3)) 94 true,
    og 98 (.load (.d (.sl (.int .i64))) (.t 97)) 94 true,
    og 99 (.len (.t 98)) 94 true,
    og 100 (.call (.f 37) [(.t 96),(.t 99)] [.d .bool] [] false) 94 true,
    og 101 (.pick (.t 94) (.t 100) (.c .bool false)) 90 false,
    o_ 102 (.pick (.t 90) (.c .bool true) (.t 101)),
    mv 103 102,
    og 104 (.fieldAddr (.d Zb) 0 (.t 6)) 103 false,
    og 105 (.load (.d (.int .i64)) (.t 104)) 103 false,
    og 106 (.bin .eql (.t 105) (.c (.int .i64) (2:Int))) 103 false,
    og 107 (.move (.t 106)) 103 false,
    og 108 (.fieldAddr (.d Zb) 1 (.t 6)) 107 true,
    og 109 (.load (.d (.int .i64)) (.t 108)) 107 true,
    og 110 (.fieldAddr (.d Z6) 3 (.t 3)) 107 true,
    og 111 (.load (.d (.sl (.int .i64))) (.t 110)) 107 true,
    og 112 (.len (.t 111)) 107 true,
    og 113 (.call (.f 37) [(.t 109),(.t 112)] [.d .bool] [] false) 107 true,
    og 114 (.pick (.t 107) (.t 113) (.c .bool false)) 103 false,
    og 115 (.move (.t 114)) 103 false,
    og 116 (.fieldAddr (.d Z6) 4 (.t 3)) 115 true,
    og 117 (.load (.d (.sl .bool)) (.t 116)) 115 true,
    og 118 (.fieldAddr (.d Zb) 1 (.t 6)) 115 true,
    og 119 (.load (.d (.int .i64)) (.t 118)) 115 true,
    og 120 (.index (.sl .bool) (.t 117) (.t 119)) 115 true,
    og 121 (.load (.d .bool) (.t 120)) 115 true,
    og 122 (.pick (.t 115) (.t 121) (.c .bool false)) 103 false,
    o_ 123 (.pick (.t 103) (.c .bool true) (.t 122)),
    mv 7 123]) (AUd)) (BEi)
def BA6:Cd:=td [72,73]
def BJ3:Cd:=.seq (.reg false [mv 72 5,
    bc 73 .add 72 1,
    mv 5 73]) (BA6)
def BFp:Cd:=.seq (.block 3 (.seq (.seq (.reg false [fa 74 Za 3 1,
    ld 75 (.sl Zb) 74,
    mv 76 5,
    ix 77 (.sl Zb) 75 76,
    ld 78 Zb 77,
    nb 6 2 Zb,
    sr Zb 6 78]) (BNq)) (BHj))) (BJ3)
def AT4:Cd:=.tidy [6,7] [] [] (some 2)
def ALj:Cd:=.seq (.seq (.seq (.seq (.reg false [mv 67 5,
    fa 68 Za 3 1,
    ld 69 (.sl Zb) 68,
    le 70 69,
    bi 71 .lss 67 70]) (BF9)) (BOw)) (BFp)) (AT4)
def BHs:Cd:=.block 2 (.loop (ALj))
def BMj:Cd:=td [126,127,128,129]
def BF1:Cd:=.skip
def BQq:Cd:=.exit 4
def BGg:Cd:=.cond (.t 130) (.seq (td [130]) (BF1)) (.seq (td [130]) (BQq))
def BTg:Cd:=td [133,134,135,136,137,138,139,140,141,142,143,144,145,146,147,148,149,150,151,152,153,154,155,156]
def BCd:Cd:=.ret
def BAu:Cd:=.seq (.reg false [o_ 2 (.move (.c .bool false))]) (BCd)
def BF6:Cd:=.skip
def BNo:Cd:=.cond (.t 157) (.seq (td [157]) (BAu)) (.seq (td [157]) (BF6))
def BTf:Cd:=td [131,132]
def BE4:Cd:=.seq (.reg false [mv 131 8,
    bc 132 .add 131 1,
    mv 8 132]) (BTf)
def BGc:Cd:=.seq (.block 5 (.seq (.seq (.reg true [od 133 (.load (.d Za) (.t 1)) [0] [],
    od 134 (.fieldAddr (.d Za) 3 (.t 1)) [0] [],
    od 135 (.load (.d (.sl Zb)) (.t 134)) [0] [],
    mv 136 8,
    ix 137 (.sl Zb) 135 136,
    ld 138 Zb 137,
    o_ 139 (.call (.f 39) [(.t 133),(.t 138)] [.d (.int .i64)] [] false),
    bc 140 .gtr 139 4,
    mv 141 140,
    ogd 142 (.load (.d Za) (.t 1)) 141 false [0],
    ogd 143 (.fieldAddr (.d Za) 3 (.t 1)) 141 false [0],
    ogd 144 (.load (.d (.sl Zb)) (.t 143)) 141 false [0],
    og 145 (.move (.t 8)) 141 false,
    og 146 (.index (.sl Zb) (.t 144) (.t 145)) 141 false,
    og 147 (.load (.d Zb) (.t 146)) 141 false,
    og 148 (.call (.f 40) [(.t 142),(.t 147)] [.d (.int .i64)] [] false) 141 false,
    ogd 149 (.load (.d Za) (.t 1)) 141 false [0],
    ogd 150 (.fieldAddr (.d Za) 3 (.t 1)) 141 false [0],
    ogd 151 (.load (.d (.sl Zb)) (.t 150)) 141 false [0],
    og 152 (.move (.t 8)) 141 false,
    og 153 (.index (.sl Zb) (.t 151) (.t 152)) 141 false,
    og 154 (.load (.d Zb) (.t 153)) 141 false,
    og 155 (.call (.f 41) [(.t 149),(.t 154)] [.d (.int .i64)] [] false) 141 false,
    og 156 (.bin .gtr (.t 148) (.t 155)) 141 false,
    o_ 157 (.pick (.t 141) (.c .bool true) (.t 156))]) (BTg)) (BNo))) (BE4)
def BO5:Cd:=.tidy [] [] [] (some 2)
def AM9:Cd:=.seq (.seq (.seq (.seq (.reg false [mv 126 8,
    fa 127 Za 3 1,
    ld 128 (.sl Zb) 127,
    le 129 128,
    bi 130 .lss 126 129]) (BMj)) (BGg)) (BGc)) (BO5)
def BHr:Cd:=.block 4 (.loop (AM9))
def BLw:Cd:=.ret
def ANi:Cd:=.seq (.reg false [o_ 2 (.move (.c .bool true))]) (BLw)
def AMd:Cd:=.seq (.seq (.reg false [ci 8 0]) (BHr)) (ANi)
def ATl:Cd:=.seq (.seq (.reg false [ci 5 0]) (BHs)) (AMd)
def CAv:Cd:=.seq (.seq (.reg false [ci 4 0]) (BQo)) (ATl)
def BUy:Cd:=.seq (.seq (.seq (.reg false [ld 11 Z6 3,
    o_ 12 (.call (.f 36) [(.t 11)] [.d .bool] [] false),
    nt 13 12,
    mv 14 13,
    og 15 (.fieldAddr (.d Za) 1 (.t 1)) 14 false,
    og 16 (.load (.d (.sl (.int .i64))) (.t 15)) 14 false,
    og 17 (.len (.t 16)) 14 false,
    og 18 (.fieldAddr (.d Z6) 1 (.t 3)) 14 false,
    og 19 (.load (.d (.sl (.int .i64))) (.t 18)) 14 false,
    og 20 (.len (.t 19)) 14 false,
    og 21 (.bin .neq (.t 17) (.t 20)) 14 false,
    o_ 22 (.pick (.t 14) (.c .bool true) (.t 21)),
    mv 23 22,
    og 24 (.fieldAddr (.d Za) 2 (.t 1)) 23 false,
    og 25 (.load (.d (.sl (.int .i64))) (.t 24)) 23 false,
    og 26 (.len (.t 25)) 23 false,
    og 27 (.fieldAddr (.d Z6) 1 (.t 3)) 23 false,
    og 28 (.load (.d (.sl (.int .i64))) (.t 27)) 23 false,
    og 29 (.len (.t 28)) 23 false,
    og 30 (.bin .neq (.t 26) (.t 29)) 23 false,
    o_ 31 (.pick (.t 23) (.c .bool true) (.t 30)),
    mv 32 31,
    og 33 (.fieldAddr (.d Za) 3 (.t 1)) 32 false,
    og 34 (.load (.d (.sl Zb)) (.t 33)) 32 false,
    og 35 (.len (.t 34)) 32 false,
    og 36 (.fieldAddr (.d Z6) 3 (.t 3)) 32 false,
    og 37 (.load (.d (.sl (.int .i64))) (.t 36)) 32 false,
    og 38 (.len (.t 37)) 32 false,
    og 39 (.bin .neq (.t 35) (.t 38)) 32 false,
    o_ 40 (.pick (.t 32) (.c .bool true) (.t 39))]) (CDp)) (CAb)) (CAv)
def CB0:Cd:=.seq (.seq (.reg false [fa 9 Za 0 1,
    ld 10 Z6 9,
    nb 3 1 Z6,
    sr Z6 3 10]) (BX8)) (BUy)
def Zh.fn:Fn:=⟨1,[.tmp 2],.seq (.reg false [bx 1 0 0,
    o_ 2 (.move (.c .bool false))]) (CB0)⟩
def CKf:Cd:=td [3,4,5,6,7,8]
def CJ8:Cd:=.ret
def CKi:Cd:=.seq (.seq (.reg false [ld 3 Za 1,
    o_ 4 (.call (.f 20) [(.t 3)] [.d .bool] [] false),
    mv 5 4,
    og 6 (.load (.d Za) (.t 1)) 5 true,
    og 7 (.call (.f 14) [(.t 6)] [.d .bool] [] false) 5 true,
    o_ 8 (.pick (.t 5) (.t 7) (.c .bool false)),
    mv 2 8]) (CKf)) (CJ8)
def Yu.fn:Fn:=⟨1,[.tmp 2],.seq (.reg false [bx 1 0 0,
    o_ 2 (.move (.c .bool false))]) (CKi)⟩
def CKx:Cd:=td [3,4,5,6,7,8,9,10,11,12]
def CKu:Cd:=.ret
def CKj:Cd:=.seq (.seq (.reg false [fa 3 Zx 5 1,
    o_ 4 (.load (.d (.sl (.int .i64))) (.t 3)),
    le 5 4,
    bc 6 .leq 5 40,
    mv 7 6,
    og 8 (.fieldAddr (.d Zx) 7 (.t 1)) 7 true,
    og 9 (.load (.d (.sl (.int .i64))) (.t 8)) 7 true,
    og 10 (.len (.t 9)) 7 true,
    og 11 (.bin .leq (.t 10) (.c (.int .i64) (40:Int))) 7 true,
    o_ 12 (.pick (.t 7) (.t 11) (.c .bool false)),
    mv 2 12]) (CKx)) (CKu)
def Y3.fn:Fn:=⟨1,[.tmp 2],.seq (.reg false [bx 1 0 0,
    o_ 2 (.move (.c .bool false))]) (CKj)⟩
def CFl:Cd:=td [5]
def CCw:Cd:=td [7,8]
def BZg:Cd:=.ret
def CBb:Cd:=.seq (.seq (.reg false [mv 7 0,
    bc 8 .eql 7 0,
    mv 4 8]) (CCw)) (BZg)
def CA4:Cd:=.skip
def BYw:Cd:=.cond (.t 6) (.seq (td [6]) (CBb)) (.seq (td [6]) (CA4))
def BZq:Cd:=td [9,10,11,12,13,14]
def CAg:Cd:=.ret
def BY0:Cd:=.seq (.seq (.reg false [mv 9 0,
    bc 10 .geq 9 0,
    mv 11 10,
    og 12 (.move (.t 0)) 11 true,
    og 13 (.bin .leq (.t 12) (.c (.int .i64) (1073741824:Int))) 11 true,
    o_ 14 (.pick (.t 11) (.t 13) (.c .bool false)),
    mv 4 14]) (BZq)) (CAg)
def CGj:Cd:=.seq (.seq (.seq (.reg false [mv 5 1,
    nt 6 5]) (CFl)) (BYw)) (BY0)
def Zg.fn:Fn:=⟨2,[.tmp 4],.seq (.reg false [o_ 4 (.move (.c .bool false))]) (CGj)⟩
def CE5:Cd:=td [6]
def BY5:Cd:=td [8,9,10]
def CF5:Cd:=.ret
def CE6:Cd:=.seq (.seq (.reg false [mv 8 0,
    le 9 8,
    bc 10 .eql 9 0,
    mv 4 10]) (BY5)) (CF5)
def CBe:Cd:=.skip
def CIb:Cd:=.cond (.t 7) (.seq (td [7]) (CE6)) (.seq (td [7]) (CBe))
def BCt:Cd:=td [11,12,13]
def BHu:Cd:=.skip
def BMu:Cd:=.exit 0
def BBz:Cd:=.cond (.t 14) (.seq (td [14]) (BHu)) (.seq (td [14]) (BMu))
def BNd:Cd:=td [17,18,19,20,21]
def AWn:Cd:=.ret
def BS0:Cd:=.seq (.reg false [o_ 4 (.move (.c .bool false))]) (AWn)
def BEg:Cd:=.skip
def BD4:Cd:=.cond (.t 22) (.seq (td [22]) (BS0)) (.seq (td [22]) (BEg))
def AZb:Cd:=td [15,16]
def BM7:Cd:=.seq (.reg false [mv 15 5,
    bc 16 .add 15 1,
    mv 5 16]) (AZb)
def BQk:Cd:=.seq (.block 1 (.seq (.seq (.reg false [mv 17 0,
    mv 18 5,
    ix 19 (.sl (.int .i64)) 17 18,
    ld 20 (.int .i64) 19,
    o_ 21 (.call (.f 43) [(.t 20),(.c .bool true)] [.d .bool] [] false),
    nt 22 21]) (BNd)) (BD4))) (BM7)
def BA2:Cd:=.tidy [] [] [] (some 0)
def ALx:Cd:=.seq (.seq (.seq (.seq (.reg false [mv 11 5,
    mv 12 0,
    le 13 12,
    bi 14 .lss 11 13]) (BCt)) (BBz)) (BQk)) (BA2)
def CJy:Cd:=.block 0 (.loop (ALx))
def BLy:Cd:=td [23,24,25]
def BBd:Cd:=.ret
def ATu:Cd:=.seq (.seq (.reg false [mv 23 0,
    le 24 23,
    bc 25 .leq 24 16,
    mv 4 25]) (BLy)) (BBd)
def CJh:Cd:=.seq (.seq (.reg false [ci 5 0]) (CJy)) (ATu)
def BV7:Cd:=.seq (.seq (.seq (.reg false [mv 6 1,
    nt 7 6]) (CE5)) (CIb)) (CJh)
def Zi.fn:Fn:=⟨2,[.tmp 4],.seq (.reg false [o_ 4 (.move (.c .bool false))]) (BV7)⟩
def CGq:Cd:=td [4,5]
def CHl:Cd:=td [6,7,8,9,10,11,12,13,14,15,16,17,18,19,20,21,22,23,24,25,26,27,28,29]
def BW7:Cd:=.ret
def BZw:Cd:=.seq (.reg false [o_ 2 (.move (.c .bool false))]) (BW7)
def CIj:Cd:=.skip
def CCn:Cd:=.cond (.t 30) (.seq (td [30]) (BZw)) (.seq (td [30]) (CIj))
def BDj:Cd:=td [31,32,33,34,35,36,37,38,39,40,41,42,43,44,45,46,47,48,49,50,51,52,53,54,55,56,57,58,59,60,61,62,63,64,65,66,67,68,69,70,71,72,73,74,75,76,77,78,79,80,81,82,83,84,85,86,87,88,89,90,91,92,93]
def BV5:Cd:=.ret
def BZ9:Cd:=.seq (.seq (.reg false [fa 31 Zx 2 1,
    ld 32 (.int .i64) 31,
    mv 33 3,
    bc 34 .geq 33 3,
    mv 35 34,
    og 36 (.move (.t 3)) 35 true,
    og 37 (.bin .leq (.t 36) (.c (.int .i64) (7:Int))) 35 true,
    o_ 38 (.pick (.t 35) (.t 37) (.c .bool false)),
    o_ 39 (.call (.f 43) [(.t 32),(.t 38)] [.d .bool] [] false),
    mv 40 39,
    og 41 (.fieldAddr (.d Zx) 3 (.t 1)) 40 true,
    og 42 (.load (.d (.int .i64)) (.t 41)) 40 true,
    og 43 (.move (.t 3)) 40 true,
    og 44 (.bin .eql (.t 43) (.c (.int .i64) (5:Int))) 40 true,
    og 45 (.move (.t 44)) 40 true,
    og 46 (.move (.t 3)) 45 false,
    og 47 (.bin .eql (.t 46) (.c (.int .i64) (6:Int))) 45 false,
    og 48 (.pick (.t 45) (.c .bool true) (.t 47)) 40 true,
    og 49 (.call (.f 43) [(.t 42),(.t 48)] [.d .bool] [] false) 40 true,
    o_ 50 (.pick (.t 40) (.t 49) (.c .bool false)),
    mv 51 50,
    og 52 (.fieldAddr (.d Zx) 4 (.t 1)) 51 true,
    og 53 (.load (.d (.int .i64)) (.t 52)) 51 true,
    og 54 (.move (.t 3)) 51 true,
    og 55 (.bin .eql (.t 54) (.c (.int .i64) (2:Int))) 51 true,
    og 56 (.move (.t 55)) 51 true,
    og 57 (.move (.t 3)) 56 false,
    og 58 (.bin .eql (.t 57) (.c (.int .i64) (7:Int))) 56 false,
    og 59 (.pick (.t 56) (.c .bool true) (.t 58)) 51 true,
    og 60 (.move (.t 59)) 51 true,
    og 61 (.move (.t 3)) 60 false,
    og 62 (.bin .eql (.t 61) (.c (.int .i64) (8:Int))) 60 false,
    og 63 (.pick (.t 60) (.c .bool true) (.t 62)) 51 true,
    og 64 (.call (.f 43) [(.t 53),(.t 63)] [.d .bool] [] false) 51 true,
    o_ 65 (.pick (.t 51) (.t 64) (.c .bool false)),
    mv 66 65,
    og 67 (.fieldAddr (.d Zx) 6 (.t 1)) 66 true,
    og 68 (.load (.d (.int .i64)) (.t 67)) 66 true,
    og 69 (.move (.t 3)) 66 true,
    og 70 (.bin .eql (.t 69) (.c (.int .i64) (8:Int))) 66 true,
    og 71 (.call (.f 43) [(.t 68),(.t 70)] [.d .bool] [] false) 66 true,
    o_ 72 (.pick (.t 66) (.t 71) (.c .bool false)),
    mv 73 72,
    og 74 (.fieldAddr (.d Zx) 8 (.t 1)) 73 true,
    og 75 (.load (.d (.int .i64)) (.t 74)) 73 true,
    og 76 (.move (.t 3)) 73 true,
    og 77 (.bin .eql (.t 76) (.c (.int .i64) (8:Int))) 73 true,
    og 78 (.call (.f 43) [(.t 75),(.t 77)] [.d .bool] [] false) 73 true,
    o_ 79 (.pick (.t 73) (.t 78) (.c .bool false)),
    mv 80 79,
    og 81 (.fieldAddr (.d Zx) 5 (.t 1)) 80 true,
    og 82 (.load (.d (.sl (.int .i64))) (.t 81)) 80 true,
    og 83 (.move (.t 3)) 80 true,
    og 84 (.bin .eql (.t 83) (.c (.int .i64) (8:Int))) 80 true,
    og 85 (.call (.f 44) [(.t 82),(.t 84)] [.d .bool] [] false) 80 true,
    o_ 86 (.pick (.t 80) (.t 85) (.c .bool false)),
    mv 87 86,
    og 88 (.fieldAddr (.d Zx) 7 (.t 1)) 87 true,
    og 89 (.load (.d (.sl (.int .i64))) (.t 88)) 87 true,
    og 90 (.move (.t 3)) 87 true,
    og 91 (.bin .eql (.t 90) (.c (.int .i64) (8:Int))) 87 true,
    og 92 (.call (.f 44) [(.t 89),(.t 91)] [.d .bool] [] false) 87 true,
    o_ 93 (.pick (.t 87) (.t 92) (.c .bool false)),
    mv 2 93]) (BDj)) (BV5)
def BVo:Cd:=.seq (.seq (.seq (.reg false [mv 6 3,
    bc 7 .lss 6 1,
    mv 8 7,
    og 9 (.move (.t 3)) 8 false,
    og 10 (.bin .gtr (.t 9) (.c (.int .i64) (10:Int))) 8 false,
    o_ 11 (.pick (.t 8) (.c .bool true) (.t 10)),
    mv 12 11,
    og 13 (.fieldAddr (.d Zx) 1 (.t 1)) 12 false,
    og 14 (.load (.d (.int .i64)) (.t 13)) 12 false,
    og 15 (.bin .lss (.t 14) (.c (.int .i64) (0:Int))) 12 false,
    o_ 16 (.pick (.t 12) (.c .bool true) (.t 15)),
    mv 17 16,
    og 18 (.fieldAddr (.d Zx) 1 (.t 1)) 17 false,
    og 19 (.load (.d (.int .i64)) (.t 18)) 17 false,
    og 20 (.bin .gtr (.t 19) (.c (.int .i64) (3:Int))) 17 false,
    o_ 21 (.pick (.t 17) (.c .bool true) (.t 20)),
    mv 22 21,
    og 23 (.fieldAddr (.d Zx) 1 (.t 1)) 22 false,
    og 24 (.load (.d (.int .i64)) (.t 23)) 22 false,
    og 25 (.bin .neq (.t 24) (.c (.int .i64) (0:Int))) 22 false,
    og 26 (.move (.t 25)) 22 false,
    og 27 (.move (.t 3)) 26 true,
    og 28 (.bin .gtr (.t 27) (.c (.int .i64) (2:Int))) 26 true,
    og 29 (.pick (.t 26) (.t 28) (.c .bool false)) 22 false,
    o_ 30 (.pick (.t 22) (.c .bool true) (.t 29))]) (CHl)) (CCn)) (BZ9)
def CEh:Cd:=.seq (.seq (.reg false [fa 4 Zx 0 1,
    ld 5 (.int .i64) 4,
    mv 3 5]) (CGq)) (BVo)
def Yp.fn:Fn:=⟨1,[.tmp 2],.seq (.reg false [bx 1 0 0,
    o_ 2 (.move (.c .bool false))]) (CEh)⟩
def CDx:Cd:=td [3,4,5,6,7]
def CEr:Cd:=td [8,9,10,11,12]
def BX4:Cd:=td [13,14,15,16,17]
def CFe:Cd:=td [18]
def CJw:Cd:=.ret
def CF3:Cd:=.seq (.seq (.reg false [ld 18 Za 1,
    sr Za 2 18]) (CFe)) (CJw)
def CBi:Cd:=.seq (.seq (.reg false [o_ 13 (.slice 6 Zb []),
    fa 14 Za 3 1,
    ld 15 (.sl Zb) 14,
    o_ 16 (.append 7 Zb (.t 13) (.t 15)),
    fa 17 Za 3 1,
    sr (.sl Zb) 17 16]) (BX4)) (CF3)
def CFz:Cd:=.seq (.seq (.reg false [o_ 8 (.slice 4 (.int .i64) []),
    fa 9 Za 2 1,
    o_ 10 (.load (.d (.sl (.int .i64))) (.t 9)),
    o_ 11 (.append 5 (.int .i64) (.t 8) (.t 10)),
    fa 12 Za 2 1,
    on_ (.store (.d (.sl (.int .i64))) (.t 12) (.t 11))]) (CEr)) (CBi)
def CCm:Cd:=.seq (.seq (.reg false [o_ 3 (.slice 2 (.int .i64) []),
    fa 4 Za 1 1,
    o_ 5 (.load (.d (.sl (.int .i64))) (.t 4)),
    o_ 6 (.append 3 (.int .i64) (.t 3) (.t 5)),
    fa 7 Za 1 1,
    on_ (.store (.d (.sl (.int .i64))) (.t 7) (.t 6))]) (CDx)) (CFz)
def Xx.fn:Fn:=⟨1,[.cell 2 (.d Za)],.seq (.reg false [bx 1 0 0,
    nb 2 1 Za]) (CCm)⟩
def CGy:Cd:=td [11,12,13,14,15,16,17,18,19,20,21,22]
def CD9:Cd:=td [23]
def CBt:Cd:=td [25]
def CCc:Cd:=.ret
def BVi:Cd:=.seq (.seq (.reg false [ld 25 Za 3,
    sr Za 6 25,
    ci 7 0,
    ci 8 4]) (CBt)) (CCc)
def CF2:Cd:=.skip
def CG5:Cd:=.cond (.t 24) (.seq (td [24]) (BVi)) (.seq (td [24]) (CF2))
def BR2:Cd:=td [26,27]
def BH6:Cd:=td [28,29,30,31,32]
def BNp:Cd:=td [33,34]
def BDn:Cd:=.ret
def BQd:Cd:=.seq (.seq (.reg false [ld 33 Za 10,
    mv 34 9,
    sr Za 6 33,
    mv 7 34,
    ci 8 0]) (BNp)) (BDn)
def BEc:Cd:=.seq (.seq (.reg false [fa 28 Za 1 10,
    o_ 29 (.load (.d (.sl (.int .i64))) (.t 28)),
    mv 30 1,
    mv 31 9,
    ix 32 (.sl (.int .i64)) 29 30,
    sr (.int .i64) 32 31]) (BH6)) (BQd)
def BXe:Cd:=.seq (.seq (.reg false [ld 26 Za 3,
    o_ 27 (.call (.f 77) [(.t 26)] [.d Za] [((0,[1]),3)] false),
    nb 10 2 Za,
    sr Za 10 27]) (BR2)) (BEc)
def BZk:Cd:=.seq (.seq (.seq (.reg false [mv 23 9,
    o_ 24 (.bin .eql (.t 23) (.c (.int .i64) ((-1):Int)))]) (CD9)) (CG5)) (BXe)
def CCu:Cd:=.seq (.seq (.reg true [od 11 (.fieldAddr (.d Za) 0 (.t 3)) [0] [],
    od 12 (.fieldAddr (.d Z6) 0 (.t 11)) [0] [],
    od 13 (.load (.d (.sl (.arr 4 (.int .i64)))) (.t 12)) [0] [],
    od 14 (.fieldAddr (.d Za) 1 (.t 3)) [0] [],
    od 15 (.load (.d (.sl (.int .i64))) (.t 14)) [0] [],
    mv 16 1,
    ix 17 (.sl (.int .i64)) 15 16,
    ld 18 (.int .i64) 17,
    mv 19 2,
    o_ 20 (.index (.sl (.arr 4 (.int .i64))) (.t 13) (.t 18)),
    o_ 21 (.index (.arr 4 (.int .i64)) (.t 20) (.t 19)),
    ld 22 (.int .i64) 21,
    mv 9 22]) (CGy)) (BZk)
def Yg.fn:Fn:=⟨3,[.cell 6 (.d Za),.tmp 7,.tmp 8],.seq (.reg false [bx 3 0 0,
    nb 6 1 Za,
    ci 7 0,
    ci 8 0]) (CCu)⟩
def BWq:Cd:=td [9,10,11,12,13,14,15]
def CBc:Cd:=.ret
def BYl:Cd:=.seq (.seq (.reg false [ld 9 Za 3,
    mv 10 1,
    mv 11 2,
    o_ 12 (.call (.f 71) [(.t 9),(.t 10),(.t 11)] [.d Za,.d (.int .i64),.d (.int .i64)] [] false),
    xt 13 12 0,
    xt 14 12 1,
    xt 15 12 2,
    sr Za 6 13,
    mv 7 14,
    mv 8 15]) (BWq)) (CBc)
def Yr.fn:Fn:=⟨3,[.cell 6 (.d Za),.tmp 7,.tmp 8],.seq (.reg false [bx 3 0 0,
    nb 6 1 Za,
    ci 7 0,
    ci 8 0]) (BYl)⟩
def CIs:Cd:=td [11,12,13,14,15,16,17,18]
def BVx:Cd:=td [20]
def CE2:Cd:=.ret
def CH5:Cd:=.seq (.seq (.reg false [ld 20 Za 4,
    sr Za 8 20,
    ci 9 0,
    ci 10 3]) (BVx)) (CE2)
def CCf:Cd:=.skip
def CHo:Cd:=.cond (.t 19) (.seq (td [19]) (CH5)) (.seq (td [19]) (CCf))
def AU2:Cd:=td [21,22]
def AVh:Cd:=td [24]
def BN3:Cd:=.ret
def BR9:Cd:=.seq (.seq (.reg false [ld 24 Za 4,
    sr Za 8 24,
    ci 9 0,
    ci 10 12]) (AVh)) (BN3)
def BQe:Cd:=.skip
def CGc:Cd:=.cond (.t 23) (.seq (td [23]) (BR9)) (.seq (td [23]) (BQe))
def BHk:Cd:=td [25,26,27,28,29,30,31,32,33,34]
def BP4:Cd:=td [36]
def BL3:Cd:=.ret
def AVu:Cd:=.seq (.seq (.reg false [ld 36 Za 4,
    sr Za 8 36,
    ci 9 0,
    ci 10 5]) (BP4)) (BL3)
def AVj:Cd:=.skip
def BB9:Cd:=.cond (.t 35) (.seq (td [35]) (AVu)) (.seq (td [35]) (AVj))
def AXf:Cd:=td [37,38,39,40,41,42,43]
def AZn:Cd:=.ret
def BRm:Cd:=.seq (.seq (.reg false [ld 37 Za 4,
    mv 38 2,
    mv 39 3,
    o_ 40 (.call (.f 71) [(.t 37),(.t 38),(.t 39)] [.d Za,.d (.int .i64),.d (.int .i64)] [] false),
    xt 41 40 0,
    xt 42 40 1,
    xt 43 40 2,
    sr Za 8 41,
    mv 9 42,
    mv 10 43]) (AXf)) (AZn)
def BY2:Cd:=.seq (.seq (.seq (.reg true [od 25 (.fieldAddr (.d Za) 1 (.t 4)) [0] [],
    od 26 (.load (.d (.sl (.int .i64))) (.t 25)) [0] [],
    mv 27 1,
    ix 28 (.sl (.int .i64)) 26 27,
    ld 29 (.int .i64) 28,
    od 30 (.fieldAddr (.d Za) 1 (.t 4)) [0] [],
    od 31 (.load (.d (.sl (.int .i64))) (.t 30)) [0] [],
    mv 32 2,
    ix 33 (.sl (.int .i64)) 31 32,
    ld 34 (.int .i64) 33,
    bi 35 .neq 29 34]) (BHk)) (BB9)) (BRm)
def CJc:Cd:=.seq (.seq (.seq (.reg false [mv 21 2,
    mv 22 1,
    bi 23 .eql 21 22]) (AU2)) (CGc)) (BY2)
def CDw:Cd:=.seq (.seq (.seq (.reg false [mv 11 2,
    bc 12 .lss 11 0,
    mv 13 12,
    og 14 (.move (.t 2)) 13 false,
    og 15 (.fieldAddr (.d Za) 1 (.t 4)) 13 false,
    og 16 (.load (.d (.sl (.int .i64))) (.t 15)) 13 false,
    og 17 (.len (.t 16)) 13 false,
    og 18 (.bin .geq (.t 14) (.t 17)) 13 false,
    o_ 19 (.pick (.t 13) (.c .bool true) (.t 18))]) (CIs)) (CHo)) (CJc)
def Yv.fn:Fn:=⟨4,[.cell 8 (.d Za),.tmp 9,.tmp 10],.seq (.reg false [bx 4 0 0,
    nb 8 1 Za,
    ci 9 0,
    ci 10 0]) (CDw)⟩
def CCz:Cd:=td [5,6,7,8,9,10,11]
def BXn:Cd:=.ret
def CA7:Cd:=.seq (.seq (.reg true [od 5 (.load (.d Za) (.t 2)) [0] [],
    od 6 (.load (.d Zb) (.t 3)) [1] [],
    o_ 7 (.call (.f 41) [(.t 5),(.t 6)] [.d (.int .i64)] [] false),
    od 8 (.load (.d Za) (.t 2)) [0] [],
    od 9 (.load (.d Zb) (.t 3)) [1] [],
    o_ 10 (.call (.f 40) [(.t 8),(.t 9)] [.d (.int .i64)] [] false),
    bi 11 .sub 7 10,
    mv 4 11]) (CCz)) (BXn)
def Xj.fn:Fn:=⟨2,[.tmp 4],.seq (.reg false [bx 2 0 0,
    bx 3 1 1,
    ci 4 0]) (CA7)⟩
def CD8:Cd:=td [8,9]
def CI8:Cd:=td [10,11,12,13,14]
def CCp:Cd:=td [15]
def CEk:Cd:=.ret
def BU3:Cd:=.seq (.seq (.reg false [ld 15 Za 7,
    sr Za 6 15]) (CCp)) (CEk)
def CEc:Cd:=.seq (.seq (.reg false [fa 10 Za 3 7,
    ld 11 (.sl Zb) 10,
    mv 12 1,
    ld 13 Zb 5,
    ix 14 (.sl Zb) 11 12,
    sr Zb 14 13]) (CI8)) (BU3)
def CH8:Cd:=.seq (.seq (.reg false [ld 8 Za 3,
    o_ 9 (.call (.f 77) [(.t 8)] [.d Za] [((0,[3]),4)] false),
    nb 7 3 Za,
    sr Za 7 9]) (CD8)) (CEc)
def Yc.fn:Fn:=⟨3,[.cell 6 (.d Za)],.seq (.reg false [bx 3 0 0,
    bx 5 1 2,
    nb 6 2 Za]) (CH8)⟩
def CIm:Cd:=td [8,9,10,11,12,13,14,15]
def CIl:Cd:=td [17]
def CCv:Cd:=.ret
def BW8:Cd:=.seq (.seq (.reg false [ld 17 Za 3,
    sr Za 6 17,
    ci 7 3]) (CIl)) (CCv)
def CDr:Cd:=.skip
def BYr:Cd:=.cond (.t 16) (.seq (td [16]) (BW8)) (.seq (td [16]) (CDr))
def BB2:Cd:=td [18,19,20,21,22,23,24,25,26,27,28]
def BT2:Cd:=td [30]
def AWc:Cd:=.ret
def BIa:Cd:=.seq (.seq (.reg false [ld 30 Za 3,
    sr Za 6 30,
    ci 7 5]) (BT2)) (AWc)
def AUg:Cd:=.skip
def CGa:Cd:=.cond (.t 29) (.seq (td [29]) (BIa)) (.seq (td [29]) (AUg))
def BQl:Cd:=td [31,32,33,34]
def BMl:Cd:=td [36]
def BDb:Cd:=.ret
def AUl:Cd:=.seq (.seq (.reg false [ld 36 Za 3,
    sr Za 6 36,
    ci 7 9]) (BMl)) (BDb)
def BPr:Cd:=.skip
def BGh:Cd:=.cond (.t 35) (.seq (td [35]) (AUl)) (.seq (td [35]) (BPr))
def BIb:Cd:=td [37,38,39,40,41]
def BEk:Cd:=.ret
def BNc:Cd:=.seq (.seq (.reg false [ld 37 Za 3,
    mv 38 2,
    mv 39 1,
    o_ 40 (.build Zb [(0,(.c (.int .i64) (1:Int))),(1,(.t 39))] []),
    o_ 41 (.call (.f 73) [(.t 37),(.t 38),(.t 40)] [.d Za] [] false),
    sr Za 6 41,
    ci 7 0]) (BIb)) (BEk)
def CIn:Cd:=.seq (.seq (.seq (.reg false [ld 31 Za 3,
    mv 32 1,
    o_ 33 (.build Zb [(0,(.c (.int .i64) (1:Int))),(1,(.t 32))] []),
    o_ 34 (.call (.f 72) [(.t 31),(.t 33)] [.d (.int .i64)] [] false),
    bc 35 .eql 34 0]) (BQl)) (BGh)) (BNc)
def BXj:Cd:=.seq (.seq (.seq (.reg true [od 18 (.fieldAddr (.d Za) 3 (.t 3)) [0] [],
    od 19 (.load (.d (.sl Zb)) (.t 18)) [0] [],
    mv 20 2,
    ix 21 (.sl Zb) 19 20,
    ld 22 Zb 21,
    od 23 (.fieldAddr (.d Za) 1 (.t 3)) [0] [],
    od 24 (.load (.d (.sl (.int .i64))) (.t 23)) [0] [],
    mv 25 1,
    ix 26 (.sl (.int .i64)) 24 25,
    ld 27 (.int .i64) 26,
    o_ 28 (.build Zb [(0,(.c (.int .i64) (0:Int))),(1,(.t 27))] []),
    o_ 29 (.eqs Zb true (.t 22) (.t 28))]) (BB2)) (CGa)) (CIn)
def BYb:Cd:=.seq (.seq (.seq (.reg false [mv 8 2,
    bc 9 .lss 8 0,
    mv 10 9,
    og 11 (.move (.t 2)) 10 false,
    og 12 (.fieldAddr (.d Za) 3 (.t 3)) 10 false,
    og 13 (.load (.d (.sl Zb)) (.t 12)) 10 false,
    og 14 (.len (.t 13)) 10 false,
    og 15 (.bin .geq (.t 11) (.t 14)) 10 false,
    o_ 16 (.pick (.t 10) (.c .bool true) (.t 15))]) (CIm)) (BYr)) (BXj)
def Y2.fn:Fn:=⟨3,[.cell 6 (.d Za),.tmp 7],.seq (.reg false [bx 3 0 0,
    nb 6 1 Za,
    ci 7 0]) (BYb)⟩
def BW1:Cd:=td [8,9,10,11,12,13,14,15]
def CA3:Cd:=td [17]
def CFs:Cd:=.ret
def CCq:Cd:=.seq (.seq (.reg false [ld 17 Za 3,
    sr Za 6 17,
    ci 7 3]) (CA3)) (CFs)
def CIw:Cd:=.skip
def CFb:Cd:=.cond (.t 16) (.seq (td [16]) (CCq)) (.seq (td [16]) (CIw))
def BQr:Cd:=td [18,19,20,21,22,23,24]
def AW7:Cd:=td [26]
def BKj:Cd:=.ret
def BJ4:Cd:=.seq (.seq (.reg false [ld 26 Za 3,
    sr Za 6 26,
    ci 7 5]) (AW7)) (BKj)
def BA5:Cd:=.skip
def CCd:Cd:=.cond (.t 25) (.seq (td [25]) (BJ4)) (.seq (td [25]) (BA5))
def BMk:Cd:=td [27,28,29,30,31,32,33,34]
def BR8:Cd:=td [36]
def BEr:Cd:=.ret
def BC3:Cd:=.seq (.seq (.reg false [ld 36 Za 3,
    sr Za 6 36,
    ci 7 9]) (BR8)) (BEr)
def BKa:Cd:=.skip
def BQf:Cd:=.cond (.t 35) (.seq (td [35]) (BC3)) (.seq (td [35]) (BKa))
def AY3:Cd:=td [37,38,39,40,41,42,43,44,45]
def BRr:Cd:=.ret
def AXg:Cd:=.seq (.seq (.reg true [od 37 (.load (.d Za) (.t 3)) [0] [],
    mv 38 2,
    od 39 (.fieldAddr (.d Za) 1 (.t 3)) [0] [],
    od 40 (.load (.d (.sl (.int .i64))) (.t 39)) [0] [],
    mv 41 1,
    ix 42 (.sl (.int .i64)) 40 41,
    ld 43 (.int .i64) 42,
    o_ 44 (.build Zb [(0,(.c (.int .i64) (0:Int))),(1,(.t 43))] []),
    o_ 45 (.call (.f 73) [(.t 37),(.t 38),(.t 44)] [.d Za] [] false),
    ⟨none,.store (.d Za) (.t 6) (.t 45),none,[],[1]⟩,
    ci 7 0]) (AY3)) (BRr)
def CDi:Cd:=.seq (.seq (.seq (.reg true [od 27 (.load (.d Za) (.t 3)) [0] [],
    od 28 (.fieldAddr (.d Za) 1 (.t 3)) [0] [],
    od 29 (.load (.d (.sl (.int .i64))) (.t 28)) [0] [],
    mv 30 1,
    ix 31 (.sl (.int .i64)) 29 30,
    ld 32 (.int .i64) 31,
    o_ 33 (.build Zb [(0,(.c (.int .i64) (0:Int))),(1,(.t 32))] []),
    o_ 34 (.call (.f 72) [(.t 27),(.t 33)] [.d (.int .i64)] [] false),
    bc 35 .eql 34 0]) (BMk)) (BQf)) (AXg)
def CG4:Cd:=.seq (.seq (.seq (.reg false [fa 18 Za 3 3,
    ld 19 (.sl Zb) 18,
    mv 20 2,
    ix 21 (.sl Zb) 19 20,
    ld 22 Zb 21,
    mv 23 1,
    o_ 24 (.build Zb [(0,(.c (.int .i64) (1:Int))),(1,(.t 23))] []),
    o_ 25 (.eqs Zb true (.t 22) (.t 24))]) (BQr)) (CCd)) (CDi)
def BYu:Cd:=.seq (.seq (.seq (.reg false [mv 8 2,
    bc 9 .lss 8 0,
    mv 10 9,
    og 11 (.move (.t 2)) 10 false,
    og 12 (.fieldAddr (.d Za) 3 (.t 3)) 10 false,
    og 13 (.load (.d (.sl Zb)) (.t 12)) 10 false,
    og 14 (.len (.t 13)) 10 false,
    og 15 (.bin .geq (.t 11) (.t 14)) 10 false,
    o_ 16 (.pick (.t 10) (.c .bool true) (.t 15))]) (BW1)) (CFb)) (CG4)
def Yq.fn:Fn:=⟨3,[.cell 6 (.d Za),.tmp 7],.seq (.reg false [bx 3 0 0,
    nb 6 1 Za,
    ci 7 0]) (BYu)⟩
def BYn:Cd:=td [5,6,7,8,9,10,11,12,13]
def BZf:Cd:=.ret
def BYy:Cd:=.seq (.seq (.reg false [mv 5 1,
    bc 6 .geq 5 0,
    mv 7 6,
    og 8 (.move (.t 1)) 7 true,
    og 9 (.fieldAddr (.d Za) 3 (.t 2)) 7 true,
    og 10 (.load (.d (.sl Zb)) (.t 9)) 7 true,
    og 11 (.len (.t 10)) 7 true,
    og 12 (.bin .lss (.t 8) (.t 11)) 7 true,
    o_ 13 (.pick (.t 7) (.t 12) (.c .bool false)),
    mv 4 13]) (BYn)) (BZf)
def Yj.fn:Fn:=⟨2,[.tmp 4],.seq (.reg false [bx 2 0 0,
    o_ 4 (.move (.c .bool false))]) (BYy)⟩
def BH5:Cd:=td [6,7,8,9,10]
def BUe:Cd:=td [11,12]
def BF7:Cd:=td [14]
def BPs:Cd:=.ret
def BJ5:Cd:=.seq (.seq (.reg false [ld 14 Zb 5,
    sr Zb 4 14]) (BF7)) (BPs)
def BAf:Cd:=.skip
def BNu:Cd:=.cond (.t 13) (.seq (td [13]) (BJ5)) (.seq (td [13]) (BAf))
def ARf:Cd:=td [15,16,17,18]
def AS9:Cd:=.ret
def AZd:Cd:=.seq (.seq (.reg false [ld 15 Za 2,
    fa 16 Zb 1 5,
    ld 17 (.int .i64) 16,
    o_ 18 (.call (.f 126) [(.t 15),(.t 17)] [.d Zb] [] false),
    sr Zb 4 18]) (ARf)) (AS9)
def BI9:Cd:=.seq (.seq (.seq (.reg false [fa 11 Zb 0 5,
    ld 12 (.int .i64) 11,
    bc 13 .neq 12 2]) (BUe)) (BNu)) (AZd)
def BTh:Cd:=.seq (.seq (.reg false [fa 6 Za 3 2,
    ld 7 (.sl Zb) 6,
    mv 8 1,
    ix 9 (.sl Zb) 7 8,
    ld 10 Zb 9,
    nb 5 2 Zb,
    sr Zb 5 10]) (BH5)) (BI9)
def X9.fn:Fn:=⟨2,[.cell 4 (.d Zb)],.seq (.reg false [bx 2 0 0,
    nb 4 1 Zb]) (BTh)⟩
def CE9:Cd:=td [8,9,10]
def BYm:Cd:=td [11,12,13,14,15,16,17,18,19,20,21,22,23,24,25,26,27,28,29,30,31,32,33,34]
def BW0:Cd:=.ret
def CEm:Cd:=.seq (.seq (.reg true [od 11 (.fieldAddr (.d Zb) 0 (.t 7)) [1] [],
    od 12 (.load (.d (.int .i64)) (.t 11)) [1] [],
    bc 13 .eql 12 0,
    mv 14 13,
    ogd 15 (.fieldAddr (.d Zb) 1 (.t 7)) 14 true [1],
    ogd 16 (.load (.d (.int .i64)) (.t 15)) 14 true [1],
    ogd 17 (.fieldAddr (.d Za) 1 (.t 3)) 14 true [0],
    ogd 18 (.load (.d (.sl (.int .i64))) (.t 17)) 14 true [0],
    og 19 (.move (.t 1)) 14 true,
    og 20 (.index (.sl (.int .i64)) (.t 18) (.t 19)) 14 true,
    og 21 (.load (.d (.int .i64)) (.t 20)) 14 true,
    og 22 (.bin .eql (.t 16) (.t 21)) 14 true,
    o_ 23 (.pick (.t 14) (.t 22) (.c .bool false)),
    mv 24 23,
    ogd 25 (.fieldAddr (.d Zb) 0 (.t 7)) 24 false [1],
    ogd 26 (.load (.d (.int .i64)) (.t 25)) 24 false [1],
    og 27 (.bin .eql (.t 26) (.c (.int .i64) (1:Int))) 24 false,
    og 28 (.move (.t 27)) 24 false,
    ogd 29 (.fieldAddr (.d Zb) 1 (.t 7)) 28 true [1],
    ogd 30 (.load (.d (.int .i64)) (.t 29)) 28 true [1],
    og 31 (.move (.t 1)) 28 true,
    og 32 (.bin .eql (.t 30) (.t 31)) 28 true,
    og 33 (.pick (.t 28) (.t 32) (.c .bool false)) 24 false,
    o_ 34 (.pick (.t 24) (.c .bool true) (.t 33)),
    mv 6 34]) (BYm)) (BW0)
def CAe:Cd:=.seq (.seq (.reg false [ld 8 Za 3,
    mv 9 2,
    o_ 10 (.call (.f 126) [(.t 8),(.t 9)] [.d Zb] [] false),
    nb 7 1 Zb,
    sr Zb 7 10]) (CE9)) (CEm)
def Yh.fn:Fn:=⟨3,[.tmp 6],.seq (.reg false [bx 3 0 0,
    o_ 6 (.move (.c .bool false))]) (CAe)⟩
def CFv:Cd:=td [8,9]
def BZo:Cd:=.ret
def BYz:Cd:=.seq (.reg false [o_ 6 (.move (.c .bool true))]) (BZo)
def BXf:Cd:=.skip
def CCt:Cd:=.cond (.t 10) (.seq (td [10]) (BYz)) (.seq (td [10]) (BXf))
def CD5:Cd:=td [11,12,13,14,15]
def AU8:Cd:=td [16,17,18,19,20,21,22,23,24,25]
def BWn:Cd:=.ret
def CHg:Cd:=.seq (.seq (.reg false [fa 16 Zb 0 7,
    ld 17 (.int .i64) 16,
    bc 18 .eql 17 2,
    mv 19 18,
    og 20 (.load (.d Za) (.t 3)) 19 true,
    og 21 (.fieldAddr (.d Zb) 1 (.t 7)) 19 true,
    og 22 (.load (.d (.int .i64)) (.t 21)) 19 true,
    og 23 (.move (.t 2)) 19 true,
    og 24 (.call (.f 76) [(.t 20),(.t 22),(.t 23)] [.d .bool] [] false) 19 true,
    o_ 25 (.pick (.t 19) (.t 24) (.c .bool false)),
    mv 6 25]) (AU8)) (BWn)
def BU9:Cd:=.seq (.seq (.reg false [fa 11 Za 3 3,
    ld 12 (.sl Zb) 11,
    mv 13 1,
    ix 14 (.sl Zb) 12 13,
    ld 15 Zb 14,
    nb 7 1 Zb,
    sr Zb 7 15]) (CD5)) (CHg)
def CIv:Cd:=.seq (.seq (.seq (.reg false [mv 8 1,
    mv 9 2,
    bi 10 .eql 8 9]) (CFv)) (CCt)) (BU9)
def Xy.fn:Fn:=⟨3,[.tmp 6],.seq (.reg false [bx 3 0 0,
    o_ 6 (.move (.c .bool false))]) (CIv)⟩
def BZ3:Cd:=td [12,13,14,15,16,17,18,19,20]
def BZe:Cd:=td [22]
def CDb:Cd:=.ret
def CAm:Cd:=.seq (.seq (.reg false [ld 22 Za 4,
    sr Za 8 22,
    ci 9 3]) (BZe)) (CDb)
def BVb:Cd:=.skip
def CI1:Cd:=.cond (.t 21) (.seq (td [21]) (CAm)) (.seq (td [21]) (BVb))
def BS9:Cd:=td [23,24,25,26,27,28,29,30,31,32,33,34,35,36]
def BA9:Cd:=td [38]
def BMo:Cd:=.ret
def BRh:Cd:=.seq (.seq (.reg false [ld 38 Za 4,
    sr Za 8 38,
    ci 9 5]) (BA9)) (BMo)
def BL9:Cd:=.skip
def CJb:Cd:=.cond (.t 37) (.seq (td [37]) (BRh)) (.seq (td [37]) (BL9))
def BH8:Cd:=td [39,40,41,42,43,44]
def BN6:Cd:=td [46]
def BMq:Cd:=.ret
def BIx:Cd:=.seq (.seq (.reg false [ld 46 Za 4,
    sr Za 8 46,
    ci 9 6]) (BN6)) (BMq)
def BFr:Cd:=.skip
def BT7:Cd:=.cond (.t 45) (.seq (td [45]) (BIx)) (.seq (td [45]) (BFr))
def BCr:Cd:=td [47,48,49]
def BJm:Cd:=td [51]
def BE8:Cd:=.ret
def AU4:Cd:=.seq (.seq (.reg false [ld 51 Za 4,
    sr Za 8 51,
    ci 9 7]) (BJm)) (BE8)
def BG8:Cd:=.skip
def BDd:Cd:=.cond (.t 50) (.seq (td [50]) (AU4)) (.seq (td [50]) (BG8))
def AYa:Cd:=td [52,53,54,55,56]
def AU0:Cd:=td [57,58,59,60]
def BCj:Cd:=.skip
def BSa:Cd:=.exit 0
def AUi:Cd:=.cond (.t 61) (.seq (td [61]) (BCj)) (.seq (td [61]) (BSa))
def BF4:Cd:=td [64,65,66,67,68,69,70]
def BN0:Cd:=td [72]
def AXa:Cd:=.ret
def BKh:Cd:=.seq (.seq (.reg false [ld 72 Za 4,
    sr Za 8 72,
    ci 9 8]) (BN0)) (AXa)
def AYk:Cd:=.skip
def BSy:Cd:=.cond (.t 71) (.seq (td [71]) (BKh)) (.seq (td [71]) (AYk))
def BUl:Cd:=td [62,63]
def BC7:Cd:=.seq (.reg false [mv 62 11,
    bc 63 .add 62 1,
    mv 11 63]) (BUl)
def BRp:Cd:=.seq (.block 1 (.seq (.seq (.reg true [od 64 (.load (.d Za) (.t 10)) [2] [],
    od 65 (.fieldAddr (.d Za) 3 (.t 10)) [2] [],
    od 66 (.load (.d (.sl Zb)) (.t 65)) [2] [],
    mv 67 11,
    ix 68 (.sl Zb) 66 67,
    ld 69 Zb 68,
    o_ 70 (.call (.f 39) [(.t 64),(.t 69)] [.d (.int .i64)] [] false),
    bc 71 .gtr 70 4]) (BF4)) (BSy))) (BC7)
def BIp:Cd:=.tidy [] [] [] (some 3)
def ANo:Cd:=.seq (.seq (.seq (.seq (.reg false [mv 57 11,
    fa 58 Za 3 10,
    ld 59 (.sl Zb) 58,
    le 60 59,
    bi 61 .lss 57 60]) (AU0)) (AUi)) (BRp)) (BIp)
def BQp:Cd:=.block 0 (.loop (ANo))
def BKt:Cd:=td [73,74,75,76]
def AU6:Cd:=td [78]
def AY4:Cd:=.ret
def AYp:Cd:=.seq (.seq (.reg false [ld 78 Za 4,
    sr Za 8 78,
    ci 9 9]) (AU6)) (AY4)
def BTw:Cd:=.skip
def AZ9:Cd:=.cond (.t 77) (.seq (td [77]) (AYp)) (.seq (td [77]) (BTw))
def BMr:Cd:=td [79]
def AXn:Cd:=.ret
def BOl:Cd:=.seq (.seq (.reg false [ld 79 Za 10,
    sr Za 8 79,
    ci 9 0]) (BMr)) (AXn)
def ALc:Cd:=.seq (.seq (.seq (.reg false [ld 73 Za 4,
    mv 74 3,
    o_ 75 (.build Zb [(0,(.c (.int .i64) (2:Int))),(1,(.t 74))] []),
    o_ 76 (.call (.f 72) [(.t 73),(.t 75)] [.d (.int .i64)] [] false),
    bc 77 .eql 76 0]) (BKt)) (AZ9)) (BOl)
def BCx:Cd:=.seq (.seq (.reg false [ci 11 0]) (BQp)) (ALc)
def BL7:Cd:=.seq (.seq (.reg false [ld 52 Za 4,
    mv 53 2,
    mv 54 3,
    o_ 55 (.build Zb [(0,(.c (.int .i64) (2:Int))),(1,(.t 54))] []),
    o_ 56 (.call (.f 73) [(.t 52),(.t 53),(.t 55)] [.d Za] [] false),
    nb 10 2 Za,
    sr Za 10 56]) (AYa)) (BCx)
def AXh:Cd:=.seq (.seq (.seq (.reg false [ld 47 Za 4,
    mv 48 3,
    mv 49 2,
    o_ 50 (.call (.f 76) [(.t 47),(.t 48),(.t 49)] [.d .bool] [] false)]) (BCr)) (BDd)) (BL7)
def CFk:Cd:=.seq (.seq (.seq (.reg false [fa 39 Za 0 4,
    fa 40 Z6 4 39,
    ld 41 (.sl .bool) 40,
    mv 42 3,
    ix 43 (.sl .bool) 41 42,
    ld 44 .bool 43,
    nt 45 44]) (BH8)) (BT7)) (AXh)
def CAp:Cd:=.seq (.seq (.seq (.reg false [fa 23 Za 3 4,
    ld 24 (.sl Zb) 23,
    mv 25 2,
    ix 26 (.sl Zb) 24 25,
    ld 27 Zb 26,
    mv 28 1,
    o_ 29 (.build Zb [(0,(.c (.int .i64) (1:Int))),(1,(.t 28))] []),
    o_ 30 (.eqs Zb true (.t 27) (.t 29)),
    mv 31 30,
    og 32 (.load (.d Za) (.t 4)) 31 false,
    og 33 (.move (.t 1)) 31 false,
    og 34 (.move (.t 3)) 31 false,
    og 35 (.call (.f 75) [(.t 32),(.t 33),(.t 34)] [.d .bool] [] false) 31 false,
    og 36 (.not (.t 35)) 31 false,
    o_ 37 (.pick (.t 31) (.c .bool true) (.t 36))]) (BS9)) (CJb)) (CFk)
def BVa:Cd:=.seq (.seq (.seq (.reg false [ld 12 Za 4,
    mv 13 2,
    o_ 14 (.call (.f 74) [(.t 12),(.t 13)] [.d .bool] [] false),
    nt 15 14,
    mv 16 15,
    og 17 (.load (.d Za) (.t 4)) 16 false,
    og 18 (.move (.t 3)) 16 false,
    og 19 (.call (.f 74) [(.t 17),(.t 18)] [.d .bool] [] false) 16 false,
    og 20 (.not (.t 19)) 16 false,
    o_ 21 (.pick (.t 16) (.c .bool true) (.t 20))]) (BZ3)) (CI1)) (CAp)
def Xa.fn:Fn:=⟨4,[.cell 8 (.d Za),.tmp 9],.seq (.reg false [bx 4 0 0,
    nb 8 1 Za,
    ci 9 0]) (BVa)⟩
def CD3:Cd:=td [10,11,12,13,14,15,16,17,18]
def BY7:Cd:=td [20]
def BWs:Cd:=.ret
def BV8:Cd:=.seq (.seq (.reg false [ld 20 Za 4,
    sr Za 8 20,
    ci 9 3]) (BY7)) (BWs)
def BXg:Cd:=.skip
def CJa:Cd:=.cond (.t 19) (.seq (td [19]) (BV8)) (.seq (td [19]) (BXg))
def BBr:Cd:=td [21,22,23,24]
def AXe:Cd:=td [26]
def BJb:Cd:=.ret
def BEb:Cd:=.seq (.seq (.reg false [ld 26 Za 4,
    sr Za 8 26,
    ci 9 5]) (AXe)) (BJb)
def BM0:Cd:=.skip
def CGe:Cd:=.cond (.t 25) (.seq (td [25]) (BEb)) (.seq (td [25]) (BM0))
def BQ9:Cd:=td [27,28,29,30,31,32]
def BFe:Cd:=td [34]
def AUs:Cd:=.ret
def BCz:Cd:=.seq (.seq (.reg false [ld 34 Za 4,
    sr Za 8 34,
    ci 9 6]) (BFe)) (AUs)
def AZe:Cd:=.skip
def AT7:Cd:=.cond (.t 33) (.seq (td [33]) (BCz)) (.seq (td [33]) (AZe))
def BFt:Cd:=td [35,36,37,38,39,40,41]
def BDp:Cd:=td [43]
def BEz:Cd:=.ret
def BKv:Cd:=.seq (.seq (.reg false [ld 43 Za 4,
    sr Za 8 43,
    ci 9 5]) (BDp)) (BEz)
def AZ3:Cd:=.skip
def AX9:Cd:=.cond (.t 42) (.seq (td [42]) (BKv)) (.seq (td [42]) (AZ3))
def BTk:Cd:=td [44,45,46,47]
def BPf:Cd:=td [49]
def BIq:Cd:=.ret
def BJa:Cd:=.seq (.seq (.reg false [ld 49 Za 4,
    sr Za 8 49,
    ci 9 9]) (BPf)) (BIq)
def BMt:Cd:=.skip
def BFv:Cd:=.cond (.t 48) (.seq (td [48]) (BJa)) (.seq (td [48]) (BMt))
def BCh:Cd:=td [50,51,52,53,54]
def BL6:Cd:=.ret
def AWy:Cd:=.seq (.seq (.reg false [ld 50 Za 4,
    mv 51 2,
    mv 52 1,
    o_ 53 (.build Zb [(0,(.c (.int .i64) (1:Int))),(1,(.t 52))] []),
    o_ 54 (.call (.f 73) [(.t 50),(.t 51),(.t 53)] [.d Za] [] false),
    sr Za 8 54,
    ci 9 0]) (BCh)) (BL6)
def BUb:Cd:=.seq (.seq (.seq (.reg false [ld 44 Za 4,
    mv 45 1,
    o_ 46 (.build Zb [(0,(.c (.int .i64) (1:Int))),(1,(.t 45))] []),
    o_ 47 (.call (.f 72) [(.t 44),(.t 46)] [.d (.int .i64)] [] false),
    bc 48 .eql 47 0]) (BTk)) (BFv)) (AWy)
def BHe:Cd:=.seq (.seq (.seq (.reg false [fa 35 Za 3 4,
    ld 36 (.sl Zb) 35,
    mv 37 2,
    ix 38 (.sl Zb) 36 37,
    ld 39 Zb 38,
    mv 40 3,
    o_ 41 (.build Zb [(0,(.c (.int .i64) (2:Int))),(1,(.t 40))] []),
    o_ 42 (.eqs Zb true (.t 39) (.t 41))]) (BFt)) (AX9)) (BUb)
def CEo:Cd:=.seq (.seq (.seq (.reg false [fa 27 Za 0 4,
    fa 28 Z6 4 27,
    ld 29 (.sl .bool) 28,
    mv 30 3,
    ix 31 (.sl .bool) 29 30,
    ld 32 .bool 31,
    nt 33 32]) (BQ9)) (AT7)) (BHe)
def BU5:Cd:=.seq (.seq (.seq (.reg false [ld 21 Za 4,
    mv 22 1,
    mv 23 3,
    o_ 24 (.call (.f 75) [(.t 21),(.t 22),(.t 23)] [.d .bool] [] false),
    nt 25 24]) (BBr)) (CGe)) (CEo)
def CJ3:Cd:=.seq (.seq (.seq (.reg false [ld 10 Za 4,
    mv 11 2,
    o_ 12 (.call (.f 74) [(.t 10),(.t 11)] [.d .bool] [] false),
    nt 13 12,
    mv 14 13,
    og 15 (.load (.d Za) (.t 4)) 14 false,
    og 16 (.move (.t 3)) 14 false,
    og 17 (.call (.f 74) [(.t 15),(.t 16)] [.d .bool] [] false) 14 false,
    og 18 (.not (.t 17)) 14 false,
    o_ 19 (.pick (.t 14) (.c .bool true) (.t 18))]) (CD3)) (CJa)) (BU5)
def Yx.fn:Fn:=⟨4,[.cell 8 (.d Za),.tmp 9],.seq (.reg false [bx 4 0 0,
    nb 8 1 Za,
    ci 9 0]) (CJ3)⟩
def CB2:Cd:=td [10,11,12,13,14,15,16,17,18,19,20,21,22,23,24,25,26,27,28]
def BX2:Cd:=td [30]
def CBf:Cd:=.ret
def CG7:Cd:=.seq (.seq (.reg false [ld 30 Za 4,
    sr Za 8 30,
    ci 9 3]) (BX2)) (CBf)
def CJ2:Cd:=.skip
def CIi:Cd:=.cond (.t 29) (.seq (td [29]) (CG7)) (.seq (td [29]) (CJ2))
def AUn:Cd:=td [31,32]
def BGk:Cd:=td [34]
def BJo:Cd:=.ret
def BNy:Cd:=.seq (.seq (.reg false [ld 34 Za 4,
    sr Za 8 34,
    ci 9 12]) (BGk)) (BJo)
def AVc:Cd:=.skip
def BU6:Cd:=.cond (.t 33) (.seq (td [33]) (BNy)) (.seq (td [33]) (AVc))
def BOc:Cd:=td [35,36,37,38,39,40,41,42,43,44,45,46,47,48,49,50,51,52,53,54]
def BDr:Cd:=td [56]
def BAo:Cd:=.ret
def BQn:Cd:=.seq (.seq (.reg false [ld 56 Za 4,
    sr Za 8 56,
    ci 9 5]) (BDr)) (BAo)
def BHg:Cd:=.skip
def BRc:Cd:=.cond (.t 55) (.seq (td [55]) (BQn)) (.seq (td [55]) (BHg))
def BOd:Cd:=td [57,58,59,60]
def BD9:Cd:=td [62]
def BAn:Cd:=.ret
def BQs:Cd:=.seq (.seq (.reg false [ld 62 Za 4,
    sr Za 8 62,
    ci 9 9]) (BD9)) (BAn)
def BMh:Cd:=.skip
def BLd:Cd:=.cond (.t 61) (.seq (td [61]) (BQs)) (.seq (td [61]) (BMh))
def BAy:Cd:=td [63,64,65,66,67]
def BDv:Cd:=.ret
def AWi:Cd:=.seq (.seq (.reg false [ld 63 Za 4,
    mv 64 2,
    mv 65 3,
    o_ 66 (.build Zb [(0,(.c (.int .i64) (1:Int))),(1,(.t 65))] []),
    o_ 67 (.call (.f 73) [(.t 63),(.t 64),(.t 66)] [.d Za] [] false),
    sr Za 8 67,
    ci 9 0]) (BAy)) (BDv)
def BPl:Cd:=.seq (.seq (.seq (.reg false [ld 57 Za 4,
    mv 58 3,
    o_ 59 (.build Zb [(0,(.c (.int .i64) (1:Int))),(1,(.t 58))] []),
    o_ 60 (.call (.f 72) [(.t 57),(.t 59)] [.d (.int .i64)] [] false),
    bc 61 .eql 60 0]) (BOd)) (BLd)) (AWi)
def CJm:Cd:=.seq (.seq (.seq (.reg true [od 35 (.fieldAddr (.d Za) 1 (.t 4)) [0] [],
    od 36 (.load (.d (.sl (.int .i64))) (.t 35)) [0] [],
    mv 37 1,
    ix 38 (.sl (.int .i64)) 36 37,
    ld 39 (.int .i64) 38,
    od 40 (.fieldAddr (.d Za) 1 (.t 4)) [0] [],
    od 41 (.load (.d (.sl (.int .i64))) (.t 40)) [0] [],
    mv 42 3,
    ix 43 (.sl (.int .i64)) 41 42,
    ld 44 (.int .i64) 43,
    bi 45 .neq 39 44,
    mv 46 45,
    ogd 47 (.fieldAddr (.d Za) 3 (.t 4)) 46 false [0],
    ogd 48 (.load (.d (.sl Zb)) (.t 47)) 46 false [0],
    og 49 (.move (.t 2)) 46 false,
    og 50 (.index (.sl Zb) (.t 48) (.t 49)) 46 false,
    og 51 (.load (.d Zb) (.t 50)) 46 false,
    og 52 (.move (.t 1)) 46 false,
    og 53 (.build Zb [(0,(.c (.int .i64) (1:Int))),(1,(.t 52))] []) 46 false,
    og 54 (.eqs Zb true (.t 51) (.t 53)) 46 false,
    o_ 55 (.pick (.t 46) (.c .bool true) (.t 54))]) (BOc)) (BRc)) (BPl)
def CFg:Cd:=.seq (.seq (.seq (.reg false [mv 31 1,
    mv 32 3,
    bi 33 .eql 31 32]) (AUn)) (BU6)) (CJm)
def CJs:Cd:=.seq (.seq (.seq (.reg false [mv 10 2,
    bc 11 .lss 10 0,
    mv 12 11,
    og 13 (.move (.t 2)) 12 false,
    og 14 (.fieldAddr (.d Za) 3 (.t 4)) 12 false,
    og 15 (.load (.d (.sl Zb)) (.t 14)) 12 false,
    og 16 (.len (.t 15)) 12 false,
    og 17 (.bin .geq (.t 13) (.t 16)) 12 false,
    o_ 18 (.pick (.t 12) (.c .bool true) (.t 17)),
    mv 19 18,
    og 20 (.move (.t 3)) 19 false,
    og 21 (.bin .lss (.t 20) (.c (.int .i64) (0:Int))) 19 false,
    o_ 22 (.pick (.t 19) (.c .bool true) (.t 21)),
    mv 23 22,
    og 24 (.move (.t 3)) 23 false,
    og 25 (.fieldAddr (.d Za) 1 (.t 4)) 23 false,
    og 26 (.load (.d (.sl (.int .i64))) (.t 25)) 23 false,
    og 27 (.len (.t 26)) 23 false,
    og 28 (.bin .geq (.t 24) (.t 27)) 23 false,
    o_ 29 (.pick (.t 23) (.c .bool true) (.t 28))]) (CB2)) (CIi)) (CFg)
def Yw.fn:Fn:=⟨4,[.cell 8 (.d Za),.tmp 9],.seq (.reg false [bx 4 0 0,
    nb 8 1 Za,
    ci 9 0]) (CJs)⟩
def CC1:Cd:=td [13,14,15,16,17]
def BVr:Cd:=td [19,20]
def CHd:Cd:=.ret
def CGk:Cd:=.seq (.seq (.reg false [mv 19 0,
    mv 20 1,
    mv 8 19,
    mv 9 20,
    ci 10 1]) (BVr)) (CHd)
def CAl:Cd:=.skip
def CBg:Cd:=.cond (.t 18) (.seq (td [18]) (CGk)) (.seq (td [18]) (CAl))
def AWj:Cd:=td [21,22,23,24,25,26,27]
def AUt:Cd:=td [29,30]
def BGt:Cd:=.ret
def AXb:Cd:=.seq (.seq (.reg false [mv 29 0,
    mv 30 1,
    mv 8 29,
    mv 9 30,
    ci 10 10]) (AUt)) (BGt)
def BPd:Cd:=.skip
def CGp:Cd:=.cond (.t 28) (.seq (td [28]) (AXb)) (.seq (td [28]) (BPd))
def BOi:Cd:=td [31,32,33,34,35]
def BNe:Cd:=td [36,37,38,39,40]
def AVs:Cd:=td [41,42,43,44,45,46,47]
def BNg:Cd:=td [49,50]
def AW3:Cd:=.ret
def BIc:Cd:=.seq (.seq (.reg false [mv 49 0,
    mv 50 1,
    mv 8 49,
    mv 9 50,
    ci 10 11]) (BNg)) (AW3)
def BR0:Cd:=.skip
def BRd:Cd:=.cond (.t 48) (.seq (td [48]) (BIc)) (.seq (td [48]) (BR0))
def BH1:Cd:=td [51,52]
def BFj:Cd:=.ret
def AYo:Cd:=.seq (.seq (.reg false [mv 51 11,
    mv 52 12,
    mv 8 51,
    mv 9 52,
    ci 10 0]) (BH1)) (BFj)
def AZx:Cd:=.seq (.seq (.seq (.reg false [mv 41 11,
    o_ 42 (.call (.f 38) [(.t 41)] [.d .bool] [] false),
    nt 43 42,
    mv 44 43,
    og 45 (.move (.t 12)) 44 false,
    og 46 (.call (.f 38) [(.t 45)] [.d .bool] [] false) 44 false,
    og 47 (.not (.t 46)) 44 false,
    o_ 48 (.pick (.t 44) (.c .bool true) (.t 47))]) (AVs)) (BRd)) (AYo)
def BQg:Cd:=.seq (.seq (.reg false [mv 36 1,
    mv 37 2,
    bi 38 .add 36 37,
    mv 39 3,
    bi 40 .sub 38 39,
    mv 12 40]) (BNe)) (AZx)
def BZj:Cd:=.seq (.seq (.reg false [mv 31 0,
    mv 32 3,
    bi 33 .add 31 32,
    mv 34 2,
    bi 35 .sub 33 34,
    mv 11 35]) (BOi)) (BQg)
def CIg:Cd:=.seq (.seq (.seq (.reg false [mv 21 0,
    mv 22 2,
    bi 23 .lss 21 22,
    mv 24 23,
    og 25 (.move (.t 1)) 24 false,
    og 26 (.move (.t 3)) 24 false,
    og 27 (.bin .lss (.t 25) (.t 26)) 24 false,
    o_ 28 (.pick (.t 24) (.c .bool true) (.t 27))]) (AWj)) (CGp)) (BZj)
def CHt:Cd:=.seq (.seq (.seq (.reg false [mv 13 2,
    bc 14 .lss 13 0,
    mv 15 14,
    og 16 (.move (.t 3)) 15 false,
    og 17 (.bin .lss (.t 16) (.c (.int .i64) (0:Int))) 15 false,
    o_ 18 (.pick (.t 15) (.c .bool true) (.t 17))]) (CC1)) (CBg)) (CIg)
def Ys.fn:Fn:=⟨4,[.tmp 8,.tmp 9,.tmp 10],.seq (.reg false [ci 8 0,
    ci 9 0,
    ci 10 0]) (CHt)⟩
def CGg:Cd:=td [20,21]
def CGx:Cd:=td [22,23,24,25,26,27,28]
def CE4:Cd:=td [29,30,31,32,33,34,35,36]
def AW9:Cd:=td [38]
def BUx:Cd:=.ret
def CH3:Cd:=.seq (.seq (.reg false [ld 38 Za 3,
    sr Za 6 38,
    ci 7 3]) (AW9)) (BUx)
def AZ7:Cd:=.skip
def CB8:Cd:=.cond (.t 37) (.seq (td [37]) (CH3)) (.seq (td [37]) (AZ7))
def BI0:Cd:=td [39,40,41]
def BB4:Cd:=.skip
def BO0:Cd:=.exit 0
def BTq:Cd:=.cond (.t 42) (.seq (td [42]) (BB4)) (.seq (td [42]) (BO0))
def AYm:Cd:=td [45,46,47,48,49,50,51,52,53,54,55,56,57,58]
def BId:Cd:=td [60]
def BH9:Cd:=.ret
def BJz:Cd:=.seq (.seq (.reg false [ld 60 Za 3,
    sr Za 6 60,
    ci 7 3]) (BId)) (BH9)
def BGz:Cd:=.skip
def BOm:Cd:=.cond (.t 59) (.seq (td [59]) (BJz)) (.seq (td [59]) (BGz))
def BJ6:Cd:=td [43,44]
def BMb:Cd:=.seq (.reg false [mv 43 10,
    bc 44 .add 43 1,
    mv 10 44]) (BJ6)
def AZz:Cd:=.seq (.block 1 (.seq (.seq (.reg true [mv 45 9,
    mv 46 10,
    od 47 (.index (.sl (.int .i64)) (.t 45) (.t 46)) [5] [],
    od 48 (.load (.d (.int .i64)) (.t 47)) [5] [],
    bc 49 .lss 48 0,
    mv 50 49,
    og 51 (.move (.t 9)) 50 false,
    og 52 (.move (.t 10)) 50 false,
    ogd 53 (.index (.sl (.int .i64)) (.t 51) (.t 52)) 50 false [5],
    ogd 54 (.load (.d (.int .i64)) (.t 53)) 50 false [5],
    ogd 55 (.fieldAddr (.d Za) 3 (.t 3)) 50 false [0],
    ogd 56 (.load (.d (.sl Zb)) (.t 55)) 50 false [0],
    og 57 (.len (.t 56)) 50 false,
    og 58 (.bin .geq (.t 54) (.t 57)) 50 false,
    o_ 59 (.pick (.t 50) (.c .bool true) (.t 58))]) (AYm)) (BOm))) (BMb)
def BQ6:Cd:=.tidy [] [] [] (some 6)
def AN4:Cd:=.seq (.seq (.seq (.seq (.reg false [mv 39 10,
    mv 40 9,
    le 41 40,
    bi 42 .lss 39 41]) (BI0)) (BTq)) (AZz)) (BQ6)
def BBf:Cd:=.block 0 (.loop (AN4))
def BT8:Cd:=td [61,62]
def BNa:Cd:=td [64]
def BCg:Cd:=.ret
def AWw:Cd:=.seq (.seq (.reg false [ld 64 Za 3,
    sr Za 6 64,
    ci 7 12]) (BNa)) (BCg)
def BHw:Cd:=.skip
def BDt:Cd:=.cond (.t 63) (.seq (td [63]) (AWw)) (.seq (td [63]) (BHw))
def AWu:Cd:=td [65,66,67,68,69,70,71,72,73,74]
def BJy:Cd:=td [76]
def BL8:Cd:=.ret
def AY9:Cd:=.seq (.seq (.reg false [ld 76 Za 3,
    sr Za 6 76,
    ci 7 5]) (BJy)) (BL8)
def AVl:Cd:=.skip
def AWf:Cd:=.cond (.t 75) (.seq (td [75]) (AY9)) (.seq (td [75]) (AVl))
def BEn:Cd:=td [77,78,79]
def BAt:Cd:=.skip
def BP9:Cd:=.exit 2
def BUj:Cd:=.cond (.t 80) (.seq (td [80]) (BAt)) (.seq (td [80]) (BP9))
def AZs:Cd:=td [83,84]
def BBy:Cd:=.skip
def BNf:Cd:=.exit 4
def BMv:Cd:=.cond (.t 85) (.seq (td [85]) (BBy)) (.seq (td [85]) (BNf))
def AV3:Cd:=td [88,89,90,91,92,93,94,95]
def BSb:Cd:=td [97]
def BDw:Cd:=.ret
def BMc:Cd:=.seq (.seq (.reg false [ld 97 Za 3,
    sr Za 6 97,
    ci 7 13]) (BSb)) (BDw)
def BI3:Cd:=.skip
def AXx:Cd:=.cond (.t 96) (.seq (td [96]) (BMc)) (.seq (td [96]) (BI3))
def BQz:Cd:=td [86,87]
def BS6:Cd:=.seq (.reg false [mv 86 12,
    bc 87 .add 86 1,
    mv 12 87]) (BQz)
def BBx:Cd:=.seq (.block 5 (.seq (.seq (.reg true [mv 88 9,
    mv 89 11,
    od 90 (.index (.sl (.int .i64)) (.t 88) (.t 89)) [5] [],
    od 91 (.load (.d (.int .i64)) (.t 90)) [5] [],
    mv 92 9,
    mv 93 12,
    od 94 (.index (.sl (.int .i64)) (.t 92) (.t 93)) [5] [],
    od 95 (.load (.d (.int .i64)) (.t 94)) [5] [],
    bi 96 .eql 91 95]) (AV3)) (AXx))) (BS6)
def AY7:Cd:=.tidy [] [] [] (some 6)
def AOn:Cd:=.seq (.seq (.seq (.seq (.reg false [mv 83 12,
    mv 84 11,
    bi 85 .lss 83 84]) (AZs)) (BMv)) (BBx)) (AY7)
def BFb:Cd:=.block 4 (.loop (AOn))
def AYd:Cd:=td [81,82]
def AH8:Cd:=.seq (.reg false [mv 81 11,
    bc 82 .add 81 1,
    mv 11 82]) (AYd)
def BFy:Cd:=.seq (.block 3 (.seq (.reg false [ci 12 0]) (BFb))) (AH8)
def AHf:Cd:=.tidy [12] [] [] (some 6)
def ADo:Cd:=.seq (.seq (.seq (.seq (.reg false [mv 77 11,
    mv 78 9,
    le 79 78,
    bi 80 .lss 77 79]) (BEn)) (BUj)) (BFy)) (AHf)
def BDk:Cd:=.block 2 (.loop (ADo))
def BP8:Cd:=td [98,99]
def BFi:Cd:=td [100,101,102]
def BA7:Cd:=.skip
def ASi:Cd:=.exit 6
def BJx:Cd:=.cond (.t 103) (.seq (td [103]) (BA7)) (.seq (td [103]) (ASi))
def AVp:Cd:=td [106]
def BSl:Cd:=td [107]
def AWo:Cd:=td [108,109,110,111]
def BQ4:Cd:=td [113]
def BA4:Cd:=td [114]
def BQv:Cd:=.seq (.reg false [mv 114 1,
    mv 16 114]) (BA4)
def AX6:Cd:=.seq (.seq (.reg false [mv 113 8,
    mv 15 113]) (BQ4)) (BQv)
def ARq:Cd:=.skip
def BGv:Cd:=.cond (.t 112) (.seq (td [112]) (AX6)) (.seq (td [112]) (ARq))
def BRx:Cd:=td [115,116,117,118,119,120,121,122,123,124]
def BUn:Cd:=td [126]
def BIi:Cd:=.ret
def AVk:Cd:=.seq (.seq (.reg false [ld 126 Za 3,
    sr Za 6 126,
    ci 7 5]) (BUn)) (BIi)
def BEq:Cd:=.skip
def BHx:Cd:=.cond (.t 125) (.seq (td [125]) (AVk)) (.seq (td [125]) (BEq))
def BQh:Cd:=td [127,128,129,130,131,132,133,134,135]
def AZm:Cd:=.seq (.reg true [od 127 (.fieldAddr (.d Za) 3 (.t 13)) [6] [],
    od 128 (.load (.d (.sl Zb)) (.t 127)) [6] [],
    mv 129 9,
    mv 130 14,
    od 131 (.index (.sl (.int .i64)) (.t 129) (.t 130)) [5] [],
    od 132 (.load (.d (.int .i64)) (.t 131)) [5] [],
    mv 133 16,
    o_ 134 (.build Zb [(0,(.c (.int .i64) (1:Int))),(1,(.t 133))] []),
    od 135 (.index (.sl Zb) (.t 128) (.t 132)) [7] [],
    ⟨none,.store (.d Zb) (.t 135) (.t 134),none,[],[7]⟩]) (BQh)
def BH3:Cd:=.seq (.seq (.seq (.reg true [od 115 (.fieldAddr (.d Za) 3 (.t 3)) [0] [],
    od 116 (.load (.d (.sl Zb)) (.t 115)) [0] [],
    mv 117 9,
    mv 118 14,
    od 119 (.index (.sl (.int .i64)) (.t 117) (.t 118)) [5] [],
    od 120 (.load (.d (.int .i64)) (.t 119)) [5] [],
    ix 121 (.sl Zb) 116 120,
    ld 122 Zb 121,
    mv 123 15,
    o_ 124 (.build Zb [(0,(.c (.int .i64) (1:Int))),(1,(.t 123))] []),
    o_ 125 (.eqs Zb true (.t 122) (.t 124))]) (BRx)) (BHx)) (AZm)
def BHi:Cd:=.seq (.seq (.seq (.reg false [mv 108 14,
    fa 109 Zx 5 5,
    o_ 110 (.load (.d (.sl (.int .i64))) (.t 109)),
    le 111 110,
    bi 112 .geq 108 111]) (AWo)) (BGv)) (BH3)
def BUh:Cd:=.seq (.seq (.reg false [mv 107 8,
    mv 16 107]) (BSl)) (BHi)
def AQ7:Cd:=td [104,105]
def BDg:Cd:=.seq (.reg false [mv 104 14,
    bc 105 .add 104 1,
    mv 14 105]) (AQ7)
def BHl:Cd:=.seq (.block 7 (.seq (.seq (.reg false [mv 106 1,
    mv 15 106]) (AVp)) (BUh))) (BDg)
def BHy:Cd:=.tidy [15,16] [] [] (some 9)
def AMp:Cd:=.seq (.seq (.seq (.seq (.reg false [mv 100 14,
    mv 101 9,
    le 102 101,
    bi 103 .lss 100 102]) (BFi)) (BJx)) (BHl)) (BHy)
def BH7:Cd:=.block 6 (.loop (AMp))
def APs:Cd:=td [136,137,138,139,140,141,142,143,144,145,146]
def APu:Cd:=td [148]
def ARi:Cd:=.ret
def APp:Cd:=.seq (.seq (.reg false [ld 148 Za 3,
    sr Za 6 148,
    ci 7 9]) (APu)) (ARi)
def AS3:Cd:=.skip
def AR6:Cd:=.cond (.t 147) (.seq (td [147]) (APp)) (.seq (td [147]) (AS3))
def APl:Cd:=td [149,150,151,152,153,154,155,156,157,158,159,160,161,162,163,164,165,166,167]
def ASr:Cd:=td [168]
def AQw:Cd:=td [170,171]
def APb:Cd:=.ret
def AQk:Cd:=.seq (.seq (.reg false [ld 170 Za 3,
    mv 171 19,
    sr Za 6 170,
    mv 7 171]) (AQw)) (APb)
def AQc:Cd:=.skip
def AO0:Cd:=.cond (.t 169) (.seq (td [169]) (AQk)) (.seq (td [169]) (AQc))
def AP1:Cd:=td [172,173,174,175,176]
def AQ1:Cd:=td [177,178,179,180,181]
def APk:Cd:=td [182]
def ASc:Cd:=.ret
def AQh:Cd:=.seq (.seq (.reg false [ld 182 Za 13,
    sr Za 6 182,
    ci 7 0]) (APk)) (ASc)
def AR2:Cd:=.seq (.seq (.reg false [fa 177 Za 2 13,
    o_ 178 (.load (.d (.sl (.int .i64))) (.t 177)),
    mv 179 8,
    mv 180 18,
    ix 181 (.sl (.int .i64)) 178 179,
    sr (.int .i64) 181 180]) (AQ1)) (AQh)
def ARp:Cd:=.seq (.seq (.reg false [fa 172 Za 2 13,
    o_ 173 (.load (.d (.sl (.int .i64))) (.t 172)),
    mv 174 1,
    mv 175 17,
    ix 176 (.sl (.int .i64)) 173 174,
    sr (.int .i64) 176 175]) (AP1)) (AR2)
def AS6:Cd:=.seq (.seq (.seq (.reg false [mv 168 19,
    bc 169 .neq 168 0]) (ASr)) (AO0)) (ARp)
def AQe:Cd:=.seq (.seq (.reg true [od 150 (.fieldAddr (.d Za) 2 (.t 3)) [0] [],
    od 151 (.load (.d (.sl (.int .i64))) (.t 150)) [0] [],
    mv 152 1,
    ix 153 (.sl (.int .i64)) 151 152,
    ld 154 (.int .i64) 153,
    od 155 (.fieldAddr (.d Za) 2 (.t 3)) [0] [],
    od 156 (.load (.d (.sl (.int .i64))) (.t 155)) [0] [],
    mv 157 8,
    ix 158 (.sl (.int .i64)) 156 157,
    ld 159 (.int .i64) 158,
    od 160 (.fieldAddr (.d Zx) 6 (.t 5)) [1] [],
    od 161 (.load (.d (.int .i64)) (.t 160)) [1] [],
    od 162 (.fieldAddr (.d Zx) 8 (.t 5)) [1] [],
    od 163 (.load (.d (.int .i64)) (.t 162)) [1] [],
    o_ 164 (.call (.f 78) [(.t 154),(.t 159),(.t 161),(.t 163)] [.d (.int .i64),.d (.int .i64),.d (.int .i64)] [] false),
    mv 149 164,
    xt 165 149 0,
    xt 166 149 1,
    xt 167 149 2,
    mv 17 165,
    mv 18 166,
    mv 19 167]) (APl)) (AS6)
def AM0:Cd:=.seq (.seq (.seq (.reg false [ld 136 Za 13,
    mv 137 1,
    o_ 138 (.build Zb [(0,(.c (.int .i64) (1:Int))),(1,(.t 137))] []),
    o_ 139 (.call (.f 72) [(.t 136),(.t 138)] [.d (.int .i64)] [] false),
    bc 140 .lss 139 0,
    mv 141 140,
    og 142 (.load (.d Za) (.t 13)) 141 false,
    og 143 (.move (.t 8)) 141 false,
    og 144 (.build Zb [(0,(.c (.int .i64) (1:Int))),(1,(.t 143))] []) 141 false,
    og 145 (.call (.f 72) [(.t 142),(.t 144)] [.d (.int .i64)] [] false) 141 false,
    og 146 (.bin .lss (.t 145) (.c (.int .i64) (0:Int))) 141 false,
    o_ 147 (.pick (.t 141) (.c .bool true) (.t 146))]) (APs)) (AR6)) (AQe)
def BQi:Cd:=.seq (.seq (.reg false [ci 14 0]) (BH7)) (AM0)
def Og:Cd:=.seq (.seq (.reg false [ld 98 Za 3,
    o_ 99 (.call (.f 77) [(.t 98)] [.d Za] [((0,[3]),7),((0,[2]),8)] false),
    nb 13 6 Za,
    sr Za 13 99]) (BP8)) (BQi)
def BQj:Cd:=.seq (.seq (.reg false [ci 11 0]) (BDk)) (Og)
def BK9:Cd:=.seq (.seq (.seq (.reg true [od 65 (.fieldAddr (.d Za) 1 (.t 3)) [0] [],
    od 66 (.load (.d (.sl (.int .i64))) (.t 65)) [0] [],
    mv 67 1,
    ix 68 (.sl (.int .i64)) 66 67,
    ld 69 (.int .i64) 68,
    od 70 (.fieldAddr (.d Za) 1 (.t 3)) [0] [],
    od 71 (.load (.d (.sl (.int .i64))) (.t 70)) [0] [],
    mv 72 8,
    ix 73 (.sl (.int .i64)) 71 72,
    ld 74 (.int .i64) 73,
    bi 75 .neq 69 74]) (AWu)) (AWf)) (BQj)
def ANd:Cd:=.seq (.seq (.seq (.reg false [mv 61 1,
    mv 62 8,
    bi 63 .eql 61 62]) (BT8)) (BDt)) (BK9)
def CD0:Cd:=.seq (.seq (.reg false [ci 10 0]) (BBf)) (ANd)
def CBr:Cd:=.seq (.seq (.seq (.reg false [mv 29 8,
    bc 30 .lss 29 0,
    mv 31 30,
    og 32 (.move (.t 8)) 31 false,
    og 33 (.fieldAddr (.d Za) 1 (.t 3)) 31 false,
    og 34 (.load (.d (.sl (.int .i64))) (.t 33)) 31 false,
    og 35 (.len (.t 34)) 31 false,
    og 36 (.bin .geq (.t 32) (.t 35)) 31 false,
    o_ 37 (.pick (.t 31) (.c .bool true) (.t 36))]) (CE4)) (CB8)) (CD0)
def CF9:Cd:=.seq (.seq (.reg true [od 22 (.slice 3 (.int .i64) []) [] [3],
    od 23 (.fieldAddr (.d Zx) 5 (.t 5)) [1] [],
    od 24 (.load (.d (.sl (.int .i64))) (.t 23)) [1] [],
    od 25 (.append 4 (.int .i64) (.t 22) (.t 24)) [] [3,4],
    od 26 (.fieldAddr (.d Zx) 7 (.t 5)) [1] [],
    od 27 (.load (.d (.sl (.int .i64))) (.t 26)) [1] [],
    od 28 (.append 5 (.int .i64) (.t 25) (.t 27)) [] [4,5],
    mv 9 28]) (CGx)) (CBr)
def CJ0:Cd:=.seq (.seq (.reg false [fa 20 Zx 4 5,
    ld 21 (.int .i64) 20,
    mv 8 21]) (CGg)) (CF9)
def Ze.fn:Fn:=⟨3,[.cell 6 (.d Za),.tmp 7],.seq (.reg false [bx 3 0 0,
    bx 5 1 2,
    nb 6 2 Za,
    ci 7 0]) (CJ0)⟩
def BU8:Cd:=td [7,8,9,10]
def BZ8:Cd:=.skip
def BT0:Cd:=.exit 0
def CFt:Cd:=.cond (.t 11) (.seq (td [11]) (BZ8)) (.seq (td [11]) (BT0))
def BUf:Cd:=td [14,15,16,17,18,19]
def BGq:Cd:=td [21,22,23,24]
def BJ0:Cd:=.seq (.reg false [mv 21 5,
    mv 22 6,
    o_ 23 (.slice 1 (.int .i64) [(.t 22)]),
    o_ 24 (.append 2 (.int .i64) (.t 21) (.t 23)),
    mv 5 24]) (BGq)
def BK7:Cd:=.skip
def AWz:Cd:=.cond (.t 20) (.seq (td [20]) (BJ0)) (.seq (td [20]) (BK7))
def BJu:Cd:=td [12,13]
def BC5:Cd:=.seq (.reg false [mv 12 6,
    bc 13 .add 12 1,
    mv 6 13]) (BJu)
def CDc:Cd:=.seq (.block 1 (.seq (.seq (.reg false [fa 14 Za 1 2,
    o_ 15 (.load (.d (.sl (.int .i64))) (.t 14)),
    mv 16 6,
    ix 17 (.sl (.int .i64)) 15 16,
    ld 18 (.int .i64) 17,
    mv 19 1,
    bi 20 .eql 18 19]) (BUf)) (AWz))) (BC5)
def BYv:Cd:=.tidy [] [(2,3)] [1] (some 4)
def ATx:Cd:=.seq (.seq (.seq (.seq (.reg false [mv 7 6,
    fa 8 Za 1 2,
    o_ 9 (.load (.d (.sl (.int .i64))) (.t 8)),
    le 10 9,
    bi 11 .lss 7 10]) (BU8)) (CFt)) (CDc)) (BYv)
def BUq:Cd:=.block 0 (.loop (ATx))
def BJn:Cd:=td [25]
def BEu:Cd:=.ret
def ATp:Cd:=.seq (.seq (.reg false [mv 25 5,
    mv 4 25]) (BJn)) (BEu)
def CHe:Cd:=.seq (.seq (.reg false [ci 6 0]) (BUq)) (ATp)
def CFd:Cd:=.seq (.reg false [o_ 5 (.mknil 3 (.int .i64))]) (CHe)
def Z0.fn:Fn:=⟨2,[.tmp 4],.seq (.reg false [bx 2 0 0,
    o_ 4 (.move (.c (.sl (.int .i64)) []))]) (CFd)⟩
def CI7:Cd:=td [7,8,9,10]
def BXi:Cd:=.skip
def BH0:Cd:=.exit 0
def BWf:Cd:=.cond (.t 11) (.seq (td [11]) (BXi)) (.seq (td [11]) (BH0))
def BO9:Cd:=td [14,15,16,17]
def BSs:Cd:=td [19,20,21,22,23,24,25,26,27,28]
def BMw:Cd:=.seq (.reg false [mv 19 5,
    mv 20 6,
    fa 21 Za 3 2,
    ld 22 (.sl Zb) 21,
    mv 23 6,
    ix 24 (.sl Zb) 22 23,
    ld 25 Zb 24,
    o_ 26 (.build Xn [(0,(.t 20)),(1,(.t 25))] []),
    o_ 27 (.slice 2 Xn [(.t 26)]),
    o_ 28 (.append 3 Xn (.t 19) (.t 27)),
    mv 5 28]) (BSs)
def BOg:Cd:=.skip
def AYt:Cd:=.cond (.t 18) (.seq (td [18]) (BMw)) (.seq (td [18]) (BOg))
def BDh:Cd:=td [12,13]
def AV5:Cd:=.seq (.reg false [mv 12 6,
    bc 13 .add 12 1,
    mv 6 13]) (BDh)
def BVm:Cd:=.seq (.block 1 (.seq (.seq (.reg true [od 14 (.load (.d Za) (.t 2)) [0] [],
    mv 15 6,
    o_ 16 (.call (.f 126) [(.t 14),(.t 15)] [.d Zb] [] false),
    od 17 (.load (.d Zb) (.t 3)) [1] [],
    o_ 18 (.eqs Zb false (.t 16) (.t 17))]) (BO9)) (AYt))) (AV5)
def CAi:Cd:=.tidy [] [(3,4)] [2] (some 5)
def ATb:Cd:=.seq (.seq (.seq (.seq (.reg false [mv 7 6,
    fa 8 Za 3 2,
    ld 9 (.sl Zb) 8,
    le 10 9,
    bi 11 .lss 7 10]) (CI7)) (BWf)) (BVm)) (CAi)
def BUr:Cd:=.block 0 (.loop (ATb))
def BMd:Cd:=td [29]
def BAq:Cd:=.ret
def ATo:Cd:=.seq (.seq (.reg false [mv 29 5,
    mv 4 29]) (BMd)) (BAq)
def CGz:Cd:=.seq (.seq (.reg false [ci 6 0]) (BUr)) (ATo)
def CB3:Cd:=.seq (.reg false [o_ 5 (.mknil 4 Xn)]) (CGz)
def Z4.fn:Fn:=⟨2,[.tmp 4],.seq (.reg false [bx 2 0 0,
    bx 3 1 1,
    o_ 4 (.move (.c (.sl Xn) []))]) (CB3)⟩
def CAf:Cd:=td [5,6,7,8,9,10,11,12,13,14,15,16,17,18,19,20,21,22,23,24,25]
def CFx:Cd:=.ret
def CEf:Cd:=.seq (.seq (.reg true [od 5 (.fieldAddr (.d Za) 1 (.t 2)) [0] [],
    od 6 (.load (.d (.sl (.int .i64))) (.t 5)) [0] [],
    mv 7 1,
    ix 8 (.sl (.int .i64)) 6 7,
    ld 9 (.int .i64) 8,
    od 10 (.load (.d Za) (.t 2)) [0] [],
    od 11 (.fieldAddr (.d Za) 1 (.t 2)) [0] [],
    od 12 (.load (.d (.sl (.int .i64))) (.t 11)) [0] [],
    mv 13 1,
    ix 14 (.sl (.int .i64)) 12 13,
    ld 15 (.int .i64) 14,
    o_ 16 (.call (.f 79) [(.t 10),(.t 15)] [.d (.sl (.int .i64))] [] false),
    od 17 (.load (.d Za) (.t 2)) [0] [],
    od 18 (.fieldAddr (.d Za) 1 (.t 2)) [0] [],
    od 19 (.load (.d (.sl (.int .i64))) (.t 18)) [0] [],
    mv 20 1,
    ix 21 (.sl (.int .i64)) 19 20,
    ld 22 (.int .i64) 21,
    o_ 23 (.build Zb [(0,(.c (.int .i64) (0:Int))),(1,(.t 22))] []),
    o_ 24 (.call (.f 80) [(.t 17),(.t 23)] [.d (.sl Xn)] [] false),
    o_ 25 (.build Zt [(1,(.c (.int .i64) (9:Int))),(2,(.t 9)),(3,(.t 16)),(4,(.t 24))] []),
    ⟨none,.store (.d Zt) (.t 4) (.t 25),none,[],[1]⟩]) (CAf)) (CFx)
def Yt.fn:Fn:=⟨2,[.cell 4 (.d Zt)],.seq (.reg false [bx 2 0 0,
    nb 4 1 Zt]) (CEf)⟩
def CGu:Cd:=td [5,6,7,8,9,10,11,12,13,14]
def CEv:Cd:=.ret
def BZt:Cd:=.seq (.seq (.reg true [od 5 (.fieldAddr (.d Za) 2 (.t 2)) [0] [],
    od 6 (.load (.d (.sl (.int .i64))) (.t 5)) [0] [],
    mv 7 1,
    ix 8 (.sl (.int .i64)) 6 7,
    ld 9 (.int .i64) 8,
    od 10 (.load (.d Za) (.t 2)) [0] [],
    mv 11 1,
    o_ 12 (.build Zb [(0,(.c (.int .i64) (1:Int))),(1,(.t 11))] []),
    o_ 13 (.call (.f 80) [(.t 10),(.t 12)] [.d (.sl Xn)] [] false),
    o_ 14 (.build Zt [(1,(.c (.int .i64) (10:Int))),(5,(.t 9)),(4,(.t 13))] []),
    ⟨none,.store (.d Zt) (.t 4) (.t 14),none,[],[1]⟩]) (CGu)) (CEv)
def Y1.fn:Fn:=⟨2,[.cell 4 (.d Zt)],.seq (.reg false [bx 2 0 0,
    nb 4 1 Zt]) (BZt)⟩
def CGs:Cd:=td [11,12]
def CFc:Cd:=td [14,15]
def CAx:Cd:=.ret
def BZr:Cd:=.seq (.seq (.reg false [ld 14 Za 3,
    o_ 15 (.build Zt [(0,(.c (.int .i64) (2:Int)))] []),
    sr Za 6 14,
    sr Zt 7 15]) (CFc)) (CAx)
def BU0:Cd:=.skip
def CEu:Cd:=.cond (.t 13) (.seq (td [13]) (BZr)) (.seq (td [13]) (BU0))
def CG0:Cd:=td [16]
def AV8:Cd:=td [17]
def BG0:Cd:=td [20]
def BM1:Cd:=td [21,22,23,24,25,26,27,28,29]
def BTa:Cd:=.seq (.reg false [ld 22 Za 3,
    mv 23 1,
    fa 24 Zx 1 5,
    ld 25 (.int .i64) 24,
    o_ 26 (.call (.f 23) [(.t 22),(.t 23),(.t 25)] [.d Za,.d (.int .i64),.d (.int .i64)] [] false),
    mv 21 26,
    xt 27 21 0,
    xt 28 21 1,
    xt 29 21 2,
    sr Za 8 27,
    mv 9 28,
    mv 10 29]) (BM1)
def BEh:Cd:=td [31]
def BG4:Cd:=td [32,33,34,35,36,37,38,39,40,41,42]
def BGe:Cd:=.seq (.reg false [ld 33 Za 3,
    mv 34 1,
    fa 35 Zx 4 5,
    ld 36 (.int .i64) 35,
    fa 37 Zx 1 5,
    ld 38 (.int .i64) 37,
    o_ 39 (.call (.f 24) [(.t 33),(.t 34),(.t 36),(.t 38)] [.d Za,.d (.int .i64),.d (.int .i64)] [] false),
    mv 32 39,
    xt 40 32 0,
    xt 41 32 1,
    xt 42 32 2,
    sr Za 8 40,
    mv 9 41,
    mv 10 42]) (BG4)
def BIm:Cd:=td [44]
def BA0:Cd:=td [45,46,47,48,49,50,51,52]
def BFw:Cd:=.seq (.reg false [ld 46 Za 3,
    mv 47 1,
    fa 48 Zx 2 5,
    ld 49 (.int .i64) 48,
    o_ 50 (.call (.f 25) [(.t 46),(.t 47),(.t 49)] [.d Za,.d (.int .i64)] [] false),
    mv 45 50,
    xt 51 45 0,
    xt 52 45 1,
    sr Za 8 51,
    mv 10 52]) (BA0)
def AV1:Cd:=td [54]
def BFu:Cd:=td [55,56,57,58,59,60,61,62]
def AUm:Cd:=.seq (.reg false [ld 56 Za 3,
    mv 57 1,
    fa 58 Zx 2 5,
    ld 59 (.int .i64) 58,
    o_ 60 (.call (.f 26) [(.t 56),(.t 57),(.t 59)] [.d Za,.d (.int .i64)] [] false),
    mv 55 60,
    xt 61 55 0,
    xt 62 55 1,
    sr Za 8 61,
    mv 10 62]) (BFu)
def BD7:Cd:=td [64]
def AWq:Cd:=td [65,66,67,68,69,70,71,72,73,74]
def BP5:Cd:=.seq (.reg false [ld 66 Za 3,
    mv 67 1,
    fa 68 Zx 2 5,
    ld 69 (.int .i64) 68,
    fa 70 Zx 3 5,
    ld 71 (.int .i64) 70,
    o_ 72 (.call (.f 27) [(.t 66),(.t 67),(.t 69),(.t 71)] [.d Za,.d (.int .i64)] [] false),
    mv 65 72,
    xt 73 65 0,
    xt 74 65 1,
    sr Za 8 73,
    mv 10 74]) (AWq)
def AZt:Cd:=td [76]
def BJ1:Cd:=td [77,78,79,80,81,82,83,84,85,86]
def BH4:Cd:=.seq (.reg false [ld 78 Za 3,
    mv 79 1,
    fa 80 Zx 2 5,
    ld 81 (.int .i64) 80,
    fa 82 Zx 3 5,
    ld 83 (.int .i64) 82,
    o_ 84 (.call (.f 28) [(.t 78),(.t 79),(.t 81),(.t 83)] [.d Za,.d (.int .i64)] [] false),
    mv 77 84,
    xt 85 77 0,
    xt 86 77 1,
    sr Za 8 85,
    mv 10 86]) (BJ1)
def BGl:Cd:=td [88]
def AXy:Cd:=td [89,90,91,92,93,94,95,96,97,98]
def BFf:Cd:=.seq (.reg false [ld 90 Za 3,
    mv 91 1,
    fa 92 Zx 2 5,
    ld 93 (.int .i64) 92,
    fa 94 Zx 4 5,
    ld 95 (.int .i64) 94,
    o_ 96 (.call (.f 29) [(.t 90),(.t 91),(.t 93),(.t 95)] [.d Za,.d (.int .i64)] [] false),
    mv 89 96,
    xt 97 89 0,
    xt 98 89 1,
    sr Za 8 97,
    mv 10 98]) (AXy)
def AZg:Cd:=td [100]
def BNj:Cd:=td [101,102,103,104,105,106,107]
def BOj:Cd:=.seq (.reg false [ld 102 Za 3,
    mv 103 1,
    ld 104 Zx 5,
    o_ 105 (.call (.f 30) [(.t 102),(.t 103),(.t 104)] [.d Za,.d (.int .i64)] [] false),
    mv 101 105,
    xt 106 101 0,
    xt 107 101 1,
    sr Za 8 106,
    mv 10 107]) (BNj)
def AZp:Cd:=td [109]
def BNr:Cd:=td [110,111,112,113]
def BIh:Cd:=.ret
def BHm:Cd:=.seq (.seq (.reg true [od 110 (.load (.d Za) (.t 3)) [0] [],
    od 111 (.load (.d Za) (.t 3)) [0] [],
    mv 112 1,
    o_ 113 (.call (.f 31) [(.t 111),(.t 112)] [.d Zt] [] false),
    ⟨none,.store (.d Za) (.t 6) (.t 110),none,[],[2]⟩,
    ⟨none,.store (.d Zt) (.t 7) (.t 113),none,[],[3]⟩]) (BNr)) (BIh)
def BLv:Cd:=td [115]
def BNi:Cd:=td [116,117,118,119]
def BGf:Cd:=.ret
def BT6:Cd:=.seq (.seq (.reg true [od 116 (.load (.d Za) (.t 3)) [0] [],
    od 117 (.load (.d Za) (.t 3)) [0] [],
    mv 118 1,
    o_ 119 (.call (.f 32) [(.t 117),(.t 118)] [.d Zt] [] false),
    ⟨none,.store (.d Za) (.t 6) (.t 116),none,[],[2]⟩,
    ⟨none,.store (.d Zt) (.t 7) (.t 119),none,[],[3]⟩]) (BNi)) (BGf)
def AYx:Cd:=.skip
def BDy:Cd:=.cond (.t 114) (.seq (td [114]) (BT6)) (.seq (td [114]) (AYx))
def BAj:Cd:=.seq (.seq (.reg false [bc 115 .eql 18 10,
    mv 114 115]) (BLv)) (BDy)
def BLi:Cd:=.cond (.t 108) (.seq (td [108]) (BHm)) (.seq (td [108]) (BAj))
def AV7:Cd:=.seq (.seq (.reg false [bc 109 .eql 18 9,
    mv 108 109]) (AZp)) (BLi)
def BOo:Cd:=.cond (.t 99) (.seq (td [99]) (BOj)) (.seq (td [99]) (AV7))
def BIg:Cd:=.seq (.seq (.reg false [bc 100 .eql 18 8,
    mv 99 100]) (AZg)) (BOo)
def AX3:Cd:=.cond (.t 87) (.seq (td [87]) (BFf)) (.seq (td [87]) (BIg))
def AX0:Cd:=.seq (.seq (.reg false [bc 88 .eql 18 7,
    mv 87 88]) (BGl)) (AX3)
def BAp:Cd:=.cond (.t 75) (.seq (td [75]) (BH4)) (.seq (td [75]) (AX0))
def BTn:Cd:=.seq (.seq (.reg false [bc 76 .eql 18 6,
    mv 75 76]) (AZt)) (BAp)
def BDx:Cd:=.cond (.t 63) (.seq (td [63]) (BP5)) (.seq (td [63]) (BTn))
def BLs:Cd:=.seq (.seq (.reg false [bc 64 .eql 18 5,
    mv 63 64]) (BD7)) (BDx)
def BRj:Cd:=.cond (.t 53) (.seq (td [53]) (AUm)) (.seq (td [53]) (BLs))
def BHq:Cd:=.seq (.seq (.reg false [bc 54 .eql 18 4,
    mv 53 54]) (AV1)) (BRj)
def BRg:Cd:=.cond (.t 43) (.seq (td [43]) (BFw)) (.seq (td [43]) (BHq))
def BBc:Cd:=.seq (.seq (.reg false [bc 44 .eql 18 3,
    mv 43 44]) (BIm)) (BRg)
def BTm:Cd:=.cond (.t 30) (.seq (td [30]) (BGe)) (.seq (td [30]) (BBc))
def AW6:Cd:=.seq (.seq (.reg false [bc 31 .eql 18 2,
    mv 30 31]) (BEh)) (BTm)
def BO1:Cd:=.cond (.t 19) (.seq (td [19]) (BTa)) (.seq (td [19]) (AW6))
def BQ3:Cd:=.block 0 (.seq (.seq (.reg false [bc 20 .eql 18 1,
    mv 19 20]) (BG0)) (BO1))
def BCc:Cd:=td [120]
def BBl:Cd:=td [122,123,124]
def AUr:Cd:=.ret
def AVt:Cd:=.seq (.seq (.reg false [ld 122 Za 3,
    mv 123 10,
    o_ 124 (.build Zt [(0,(.t 123))] []),
    sr Za 6 122,
    sr Zt 7 124]) (BBl)) (AUr)
def AZq:Cd:=.skip
def AT2:Cd:=.cond (.t 121) (.seq (td [121]) (AVt)) (.seq (td [121]) (AZq))
def AW1:Cd:=td [125,126,127,128,129]
def AWa:Cd:=.ret
def AXo:Cd:=.seq (.seq (.reg true [od 125 (.load (.d Za) (.t 8)) [4] [],
    od 126 (.fieldAddr (.d Zx) 0 (.t 5)) [1] [],
    od 127 (.load (.d (.int .i64)) (.t 126)) [1] [],
    mv 128 9,
    o_ 129 (.build Zt [(1,(.t 127)),(2,(.t 128))] []),
    ⟨none,.store (.d Za) (.t 6) (.t 125),none,[],[2]⟩,
    ⟨none,.store (.d Zt) (.t 7) (.t 129),none,[],[3]⟩]) (AW1)) (AWa)
def AYj:Cd:=.seq (.seq (.seq (.reg false [mv 120 10,
    bc 121 .neq 120 0]) (BCc)) (AT2)) (AXo)
def BI8:Cd:=.seq (.seq (.seq (.reg false [fa 17 Zx 0 5,
    ld 18 (.int .i64) 17]) (AV8)) (BQ3)) (AYj)
def AXi:Cd:=.seq (.reg false [ci 10 0]) (BI8)
def BXc:Cd:=.seq (.reg false [ci 9 0]) (AXi)
def CFh:Cd:=.seq (.seq (.reg false [ld 16 Za 3,
    nb 8 4 Za,
    sr Za 8 16]) (CG0)) (BXc)
def BVp:Cd:=.seq (.seq (.seq (.reg false [ld 11 Zx 5,
    o_ 12 (.call (.f 17) [(.t 11)] [.d .bool] [] false),
    nt 13 12]) (CGs)) (CEu)) (CFh)
def Qc.fn:Fn:=⟨3,[.cell 6 (.d Za),.cell 7 (.d Zt)],.seq (.reg false [bx 3 0 0,
    bx 5 1 2,
    nb 6 2 Za,
    nb 7 3 Zt]) (BVp)⟩
def CE1:Cd:=td [6,7,8,9]
def CJk:Cd:=.ret
def BV0:Cd:=.seq (.reg false [o_ 4 (.move (.c .bool false))]) (CJk)
def BZb:Cd:=.skip
def BUs:Cd:=.cond (.t 10) (.seq (td [10]) (BV0)) (.seq (td [10]) (BZb))
def AYe:Cd:=td [11,12,13]
def BP7:Cd:=.skip
def BQu:Cd:=.exit 0
def AT9:Cd:=.cond (.t 14) (.seq (td [14]) (BP7)) (.seq (td [14]) (BQu))
def BO7:Cd:=td [17,18,19,20,21,22,23,24]
def AX7:Cd:=.ret
def AY6:Cd:=.seq (.reg false [o_ 4 (.move (.c .bool false))]) (AX7)
def BTz:Cd:=.skip
def BFa:Cd:=.cond (.t 25) (.seq (td [25]) (AY6)) (.seq (td [25]) (BTz))
def BNh:Cd:=td [15,16]
def BTr:Cd:=.seq (.reg false [mv 15 5,
    bc 16 .add 15 1,
    mv 5 16]) (BNh)
def BTu:Cd:=.seq (.block 1 (.seq (.seq (.reg true [mv 17 0,
    mv 18 5,
    ix 19 (.sl Zb) 17 18,
    ld 20 Zb 19,
    mv 21 1,
    mv 22 5,
    ix 23 (.sl Zb) 21 22,
    ld 24 Zb 23,
    o_ 25 (.eqs Zb true (.t 20) (.t 24))]) (BO7)) (BFa))) (BTr)
def AZa:Cd:=.tidy [] [] [] (some 0)
def ATg:Cd:=.seq (.seq (.seq (.seq (.reg false [mv 11 5,
    mv 12 0,
    le 13 12,
    bi 14 .lss 11 13]) (AYe)) (AT9)) (BTu)) (AZa)
def BY1:Cd:=.block 0 (.loop (ATg))
def BQt:Cd:=.ret
def ATj:Cd:=.seq (.reg false [o_ 4 (.move (.c .bool true))]) (BQt)
def BVl:Cd:=.seq (.seq (.reg false [ci 5 0]) (BY1)) (ATj)
def CJd:Cd:=.seq (.seq (.seq (.reg false [mv 6 0,
    le 7 6,
    mv 8 1,
    le 9 8,
    bi 10 .neq 7 9]) (CE1)) (BUs)) (BVl)
def Z5.fn:Fn:=⟨2,[.tmp 4],.seq (.reg false [o_ 4 (.move (.c .bool false))]) (CJd)⟩
def CBk:Cd:=td [9,10]
def CDv:Cd:=td [11,12]
def CBd:Cd:=td [13,14,15,16,17,18,19,20,21,22,23,24,25,26,27,28,29,30,31,32,33,34,35,36,37,38,39,40,41,42,43,44,45,46,47,48]
def CH6:Cd:=.ret
def BZ4:Cd:=.seq (.reg false [o_ 4 (.move (.c .bool false))]) (CH6)
def AUc:Cd:=.skip
def BXl:Cd:=.cond (.t 49) (.seq (td [49]) (BZ4)) (.seq (td [49]) (AUc))
def BNm:Cd:=td [50,51,52,53]
def BDi:Cd:=.skip
def BRe:Cd:=.exit 0
def BLk:Cd:=.cond (.t 54) (.seq (td [54]) (BDi)) (.seq (td [54]) (BRe))
def BIn:Cd:=td [57,58,59,60,61,62,63,64,65,66]
def BPj:Cd:=.ret
def AXp:Cd:=.seq (.reg false [o_ 4 (.move (.c .bool false))]) (BPj)
def BCi:Cd:=.skip
def BPw:Cd:=.cond (.t 67) (.seq (td [67]) (AXp)) (.seq (td [67]) (BCi))
def BMg:Cd:=td [55,56]
def BAv:Cd:=.seq (.reg false [mv 55 7,
    bc 56 .add 55 1,
    mv 7 56]) (BMg)
def BDs:Cd:=.seq (.block 1 (.seq (.seq (.reg true [od 57 (.fieldAddr (.d Z6) 0 (.t 5)) [2] [],
    od 58 (.load (.d (.sl (.arr 4 (.int .i64)))) (.t 57)) [2] [],
    mv 59 7,
    o_ 60 (.index (.sl (.arr 4 (.int .i64))) (.t 58) (.t 59)),
    o_ 61 (.load (.d (.arr 4 (.int .i64))) (.t 60)),
    od 62 (.fieldAddr (.d Z6) 0 (.t 6)) [3] [],
    od 63 (.load (.d (.sl (.arr 4 (.int .i64)))) (.t 62)) [3] [],
    mv 64 7,
    o_ 65 (.index (.sl (.arr 4 (.int .i64))) (.t 63) (.t 64)),
    o_ 66 (.load (.d (.arr 4 (.int .i64))) (.t 65)),
    o_ 67 (.eqs (.arr 4 (.int .i64)) true (.t 61) (.t 66))]) (BIn)) (BPw))) (BAv)
def BEd:Cd:=.tidy [] [] [] (some 4)
def AL4:Cd:=.seq (.seq (.seq (.seq (.reg false [mv 50 7,
    fa 51 Z6 0 5,
    o_ 52 (.load (.d (.sl (.arr 4 (.int .i64)))) (.t 51)),
    le 53 52,
    bi 54 .lss 50 53]) (BNm)) (BLk)) (BDs)) (BEd)
def BSh:Cd:=.block 0 (.loop (AL4))
def BSv:Cd:=td [68,69,70,71]
def BF8:Cd:=.skip
def BBi:Cd:=.exit 2
def AV4:Cd:=.cond (.t 72) (.seq (td [72]) (BF8)) (.seq (td [72]) (BBi))
def BTx:Cd:=td [75,76,77,78,79,80,81,82,83,84]
def BR4:Cd:=.ret
def BDf:Cd:=.seq (.reg false [o_ 4 (.move (.c .bool false))]) (BR4)
def BBj:Cd:=.skip
def BBh:Cd:=.cond (.t 85) (.seq (td [85]) (BDf)) (.seq (td [85]) (BBj))
def BLz:Cd:=td [73,74]
def BS8:Cd:=.seq (.reg false [mv 73 8,
    bc 74 .add 73 1,
    mv 8 74]) (BLz)
def BRk:Cd:=.seq (.block 3 (.seq (.seq (.reg true [od 75 (.fieldAddr (.d Z6) 4 (.t 5)) [2] [],
    od 76 (.load (.d (.sl .bool)) (.t 75)) [2] [],
    mv 77 8,
    ix 78 (.sl .bool) 76 77,
    ld 79 .bool 78,
    od 80 (.fieldAddr (.d Z6) 4 (.t 6)) [3] [],
    od 81 (.load (.d (.sl .bool)) (.t 80)) [3] [],
    mv 82 8,
    ix 83 (.sl .bool) 81 82,
    ld 84 .bool 83,
    o_ 85 (.eqs .bool true (.t 79) (.t 84))]) (BTx)) (BBh))) (BS8)
def BKd:Cd:=.tidy [] [] [] (some 4)
def AM5:Cd:=.seq (.seq (.seq (.seq (.reg false [mv 68 8,
    fa 69 Z6 4 5,
    ld 70 (.sl .bool) 69,
    le 71 70,
    bi 72 .lss 68 71]) (BSv)) (AV4)) (BRk)) (BKd)
def BCv:Cd:=.block 2 (.loop (AM5))
def BOx:Cd:=td [86,87,88,89,90,91,92,93,94,95,96,97,98,99,100,101,102,103,104,105,106,107,108,109,110,111,112,113,114,115,116,117,118,119,120,121,122,123,124,125]
def BTv:Cd:=.ret
def AMj:Cd:=.seq (.seq (.reg false [fa 86 Z6 1 5,
    o_ 87 (.load (.d (.sl (.int .i64))) (.t 86)),
    fa 88 Z6 1 6,
    o_ 89 (.load (.d (.sl (.int .i64))) (.t 88)),
    o_ 90 (.call (.f 33) [(.t 87),(.t 89)] [.d .bool] [] false),
    mv 91 90,
    og 92 (.fieldAddr (.d Z6) 2 (.t 5)) 91 true,
    og 93 (.load (.d (.sl (.int .i64))) (.t 92)) 91 true,
    og 94 (.fieldAddr (.d Z6) 2 (.t 6)) 91 true,
    og 95 (.load (.d (.sl (.int .i64))) (.t 94)) 91 true,
    og 96 (.call (.f 33) [(.t 93),(.t 95)] [.d .bool] [] false) 91 true,
    o_ 97 (.pick (.t 91) (.t 96) (.c .bool false)),
    mv 98 97,
    og 99 (.fieldAddr (.d Z6) 3 (.t 5)) 98 true,
    og 100 (.load (.d (.sl (.int .i64))) (.t 99)) 98 true,
    og 101 (.fieldAddr (.d Z6) 3 (.t 6)) 98 true,
    og 102 (.load (.d (.sl (.int .i64))) (.t 101)) 98 true,
    og 103 (.call (.f 33) [(.t 100),(.t 102)] [.d .bool] [] false) 98 true,
    o_ 104 (.pick (.t 98) (.t 103) (.c .bool false)),
    mv 105 104,
    og 106 (.fieldAddr (.d Za) 1 (.t 2)) 105 true,
    og 107 (.load (.d (.sl (.int .i64))) (.t 106)) 105 true,
    og 108 (.fieldAddr (.d Za) 1 (.t 3)) 105 true,
    og 109 (.load (.d (.sl (.int .i64))) (.t 108)) 105 true,
    og 110 (.call (.f 33) [(.t 107),(.t 109)] [.d .bool] [] false) 105 true,
    o_ 111 (.pick (.t 105) (.t 110) (.c .bool false)),
    mv 112 111,
    og 113 (.fieldAddr (.d Za) 2 (.t 2)) 112 true,
    og 114 (.load (.d (.sl (.int .i64))) (.t 113)) 112 true,
    og 115 (.fieldAddr (.d Za) 2 (.t 3)) 112 true,
    og 116 (.load (.d (.sl (.int .i64))) (.t 115)) 112 true,
    og 117 (.call (.f 33) [(.t 114),(.t 116)] [.d .bool] [] false) 112 true,
    o_ 118 (.pick (.t 112) (.t 117) (.c .bool false)),
    mv 119 118,
    og 120 (.fieldAddr (.d Za) 3 (.t 2)) 119 true,
    og 121 (.load (.d (.sl Zb)) (.t 120)) 119 true,
    og 122 (.fieldAddr (.d Za) 3 (.t 3)) 119 true,
    og 123 (.load (.d (.sl Zb)) (.t 122)) 119 true,
    og 124 (.call (.f 34) [(.t 121),(.t 123)] [.d .bool] [] false) 119 true,
    o_ 125 (.pick (.t 119) (.t 124) (.c .bool false)),
    mv 4 125]) (BOx)) (BTv)
def AOk:Cd:=.seq (.seq (.reg false [ci 8 0]) (BCv)) (AMj)
def BVs:Cd:=.seq (.seq (.reg false [ci 7 0]) (BSh)) (AOk)
def CHn:Cd:=.seq (.seq (.seq (.reg false [fa 13 Z6 5 5,
    ld 14 (.int .i64) 13,
    fa 15 Z6 5 6,
    ld 16 (.int .i64) 15,
    bi 17 .neq 14 16,
    mv 18 17,
    og 19 (.fieldAddr (.d Z6) 6 (.t 5)) 18 false,
    og 20 (.load (.d (.int .i64)) (.t 19)) 18 false,
    og 21 (.fieldAddr (.d Z6) 6 (.t 6)) 18 false,
    og 22 (.load (.d (.int .i64)) (.t 21)) 18 false,
    og 23 (.bin .neq (.t 20) (.t 22)) 18 false,
    o_ 24 (.pick (.t 18) (.c .bool true) (.t 23)),
    mv 25 24,
    og 26 (.fieldAddr (.d Z6) 7 (.t 5)) 25 false,
    og 27 (.load (.d (.int .i64)) (.t 26)) 25 false,
    og 28 (.fieldAddr (.d Z6) 7 (.t 6)) 25 false,
    og 29 (.load (.d (.int .i64)) (.t 28)) 25 false,
    og 30 (.bin .neq (.t 27) (.t 29)) 25 false,
    o_ 31 (.pick (.t 25) (.c .bool true) (.t 30)),
    mv 32 31,
    og 33 (.fieldAddr (.d Z6) 0 (.t 5)) 32 false,
    og 34 (.load (.d (.sl (.arr 4 (.int .i64)))) (.t 33)) 32 false,
    og 35 (.len (.t 34)) 32 false,
    og 36 (.fieldAddr (.d Z6) 0 (.t 6)) 32 false,
    og 37 (.load (.d (.sl (.arr 4 (.int .i64)))) (.t 36)) 32 false,
    og 38 (.len (.t 37)) 32 false,
    og 39 (.bin .neq (.t 35) (.t 38)) 32 false,
    o_ 40 (.pick (.t 32) (.c .bool true) (.t 39)),
    mv 41 40,
    og 42 (.fieldAddr (.d Z6) 4 (.t 5)) 41 false,
    og 43 (.load (.d (.sl .bool)) (.t 42)) 41 false,
    og 44 (.len (.t 43)) 41 false,
    og 45 (.fieldAddr (.d Z6) 4 (.t 6)) 41 false,
    og 46 (.load (.d (.sl .bool)) (.t 45)) 41 false,
    og 47 (.len (.t 46)) 41 false,
    og 48 (.bin .neq (.t 44) (.t 47)) 41 false,
    o_ 49 (.pick (.t 41) (.c .bool true) (.t 48))]) (CBd)) (BXl)) (BVs)
def BW3:Cd:=.seq (.seq (.reg false [fa 11 Za 0 3,
    ld 12 Z6 11,
    nb 6 3 Z6,
    sr Z6 6 12]) (CDv)) (CHn)
def CEw:Cd:=.seq (.seq (.reg false [fa 9 Za 0 2,
    ld 10 Z6 9,
    nb 5 2 Z6,
    sr Z6 5 10]) (CBk)) (BW3)
def Zq.fn:Fn:=⟨2,[.tmp 4],.seq (.reg false [bx 2 0 0,
    bx 3 1 1,
    o_ 4 (.move (.c .bool false))]) (CEw)⟩
def CKr:Cd:=td [12,13,14,15,16,17,18,19,20,21,22]
def CKl:Cd:=td [24]
def CKs:Cd:=.ret
def CKp:Cd:=.seq (.seq (.reg false [o_ 24 (.call (.f 7) [] [.d .bool] [] false),
    mv 6 24]) (CKl)) (CKs)
def CJ9:Cd:=.skip
def CJ7:Cd:=.cond (.t 23) (.seq (td [23]) (CKp)) (.seq (td [23]) (CJ9))
def CKb:Cd:=td [25,26,27,28,29,30]
def BVu:Cd:=td [31,32,33,34,35,36,37]
def BZ6:Cd:=td [38,39,40,41,42,43,44]
def CAn:Cd:=td [45,46,47,48,49,50,51,52]
def CB9:Cd:=.ret
def BWk:Cd:=.seq (.seq (.reg false [ld 45 Za 8,
    ld 46 Za 10,
    o_ 47 (.call (.f 12) [(.t 45),(.t 46)] [.d .bool] [] false),
    mv 48 47,
    og 49 (.load (.d Zt) (.t 9)) 48 true,
    og 50 (.load (.d Zt) (.t 11)) 48 true,
    og 51 (.call (.f 13) [(.t 49),(.t 50)] [.d .bool] [] false) 48 true,
    o_ 52 (.pick (.t 48) (.t 51) (.c .bool false)),
    mv 6 52]) (CAn)) (CB9)
def CAo:Cd:=.seq (.seq (.reg false [ld 39 Za 3,
    mv 40 7,
    ld 41 Zx 5,
    o_ 42 (.call (.f 11) [(.t 39),(.t 40),(.t 41)] [.d Za,.d Zt] [] false),
    mv 38 42,
    xt 43 38 0,
    xt 44 38 1,
    nb 10 4 Za,
    nb 11 5 Zt,
    sr Za 10 43,
    sr Zt 11 44]) (BZ6)) (BWk)
def CKt:Cd:=.seq (.seq (.reg false [ld 32 Za 3,
    mv 33 7,
    ld 34 Zx 5,
    o_ 35 (.call (.f 10) [(.t 32),(.t 33),(.t 34)] [.d Za,.d Zt] [] false),
    mv 31 35,
    xt 36 31 0,
    xt 37 31 1,
    nb 8 2 Za,
    nb 9 3 Zt,
    sr Za 8 36,
    sr Zt 9 37]) (BVu)) (CAo)
def CKg:Cd:=.seq (.seq (.reg false [mv 25 1,
    o_ 26 (.conv .i64 (.t 25)),
    fa 27 Za 1 3,
    o_ 28 (.load (.d (.sl (.int .i64))) (.t 27)),
    le 29 28,
    bi 30 .rem 26 29,
    mv 7 30]) (CKb)) (CKt)
def CJ6:Cd:=.seq (.seq (.seq (.reg false [o_ 12 (.call (.f 7) [] [.d .bool] [] false),
    nt 13 12,
    mv 14 13,
    og 15 (.load (.d Za) (.t 3)) 14 false,
    og 16 (.call (.f 8) [(.t 15)] [.d .bool] [] false) 14 false,
    og 17 (.not (.t 16)) 14 false,
    o_ 18 (.pick (.t 14) (.c .bool true) (.t 17)),
    mv 19 18,
    og 20 (.load (.d Zx) (.t 5)) 19 false,
    og 21 (.call (.f 9) [(.t 20)] [.d .bool] [] false) 19 false,
    og 22 (.not (.t 21)) 19 false,
    o_ 23 (.pick (.t 19) (.c .bool true) (.t 22))]) (CKr)) (CJ7)) (CKg)
def X8.fn:Fn:=⟨3,[.tmp 6],.seq (.reg false [bx 3 0 0,
    bx 5 1 2,
    o_ 6 (.move (.c .bool false))]) (CJ6)⟩
def CHq:Cd:=td [3]
def CBq:Cd:=.ret
def CGb:Cd:=.seq (.seq (.reg false [o_ 3 (.func 86 [(.t 1)]),
    mv 2 3]) (CHq)) (CBq)
def O9.fn:Fn:=⟨1,[.tmp 2],.seq (.reg false [bx 1 0 0,
    o_ 2 (.move .nf)]) (CGb)⟩
def BVk:Cd:=td [3]
def CBm:Cd:=.ret
def CIu:Cd:=.seq (.seq (.reg false [o_ 3 (.func 91 [(.t 1)]),
    mv 2 3]) (BVk)) (CBm)
def Oi.fn:Fn:=⟨1,[.tmp 2],.seq (.reg false [bx 1 0 0,
    o_ 2 (.move .nf)]) (CIu)⟩
def CIf:Cd:=td [3]
def CCy:Cd:=.ret
def CHz:Cd:=.seq (.seq (.reg false [o_ 3 (.func 123 [(.t 1)]),
    mv 2 3]) (CIf)) (CCy)
def R5.fn:Fn:=⟨1,[.tmp 2],.seq (.reg false [bx 1 0 0,
    o_ 2 (.move .nf)]) (CHz)⟩
def prog:FuncId→Option Fn
  | 3=>some X8.fn
  | 7=>some Yi.fn
  | 8=>some Yu.fn
  | 9=>some Y3.fn
  | 10=>some Vh.fn
  | 11=>some Qc.fn
  | 12=>some Zq.fn
  | 13=>some Yf.fn
  | 14=>some Zh.fn
  | 17=>some Yp.fn
  | 18=>some Vo.fn
  | 19=>some Re.fn
  | 20=>some Yn.fn
  | 21=>some H0.fn
  | 23=>some Yr.fn
  | 24=>some Yv.fn
  | 25=>some Y2.fn
  | 26=>some Yq.fn
  | 27=>some Xa.fn
  | 28=>some Yx.fn
  | 29=>some Yw.fn
  | 30=>some Ze.fn
  | 31=>some Yt.fn
  | 32=>some Y1.fn
  | 33=>some Z2.fn
  | 34=>some Z5.fn
  | 35=>some Z9.fn
  | 36=>some Zc.fn
  | 37=>some Xi.fn
  | 38=>some X4.fn
  | 39=>some Z7.fn
  | 40=>some Z8.fn
  | 41=>some Yo.fn
  | 43=>some Zg.fn
  | 44=>some Zi.fn
  | 45=>some H6.fn
  | 46=>some H3.fn
  | 47=>some Q6.fn
  | 48=>some Ud.fn
  | 49=>some Hb.fn
  | 50=>some G5.fn
  | 51=>some O9.fn
  | 52=>some Jn.fn
  | 53=>some K4.fn
  | 54=>some Jl.fn
  | 55=>some K7.fn
  | 56=>some Oi.fn
  | 57=>some Je.fn
  | 58=>some H8.fn
  | 59=>some Jp.fn
  | 60=>some K8.fn
  | 61=>some Ji.fn
  | 62=>some K0.fn
  | 63=>some Jc.fn
  | 64=>some Ka.fn
  | 65=>some Jo.fn
  | 66=>some V9.fn
  | 67=>some Xd.fn
  | 68=>some R5.fn
  | 69=>some V8.fn
  | 70=>some K5.fn
  | 71=>some Yg.fn
  | 72=>some Xj.fn
  | 73=>some Yc.fn
  | 74=>some Yj.fn
  | 75=>some Yh.fn
  | 76=>some Xy.fn
  | 77=>some Xx.fn
  | 78=>some Ys.fn
  | 79=>some Z0.fn
  | 80=>some Z4.fn
  | 81=>some Hr.fn
  | 82=>some Wc.fn
  | 83=>some Zs.fn
  | 84=>some Xk.fn
  | 85=>some K6.fn
  | 86=>some Jq.fn
  | 87=>some Y5.fn
  | 88=>some Ks.fn
  | 89=>some Vt.fn
  | 90=>some Ve.fn
  | 91=>some Jm.fn
  | 92=>some Ju.fn
  | 93=>some Kq.fn
  | 94=>some Qu.fn
  | 95=>some Qn.fn
  | 96=>some Js.fn
  | 97=>some Vd.fn
  | 98=>some Vp.fn
  | 99=>some Vf.fn
  | 100=>some J9.fn
  | 102=>some Vb.fn
  | 103=>some J2.fn
  | 104=>some Xs.fn
  | 105=>some Va.fn
  | 106=>some Jy.fn
  | 107=>some Hu.fn
  | 108=>some Qb.fn
  | 109=>some Jr.fn
  | 110=>some Jf.fn
  | 111=>some Jj.fn
  | 112=>some Jh.fn
  | 113=>some Hq.fn
  | 114=>some Qy.fn
  | 115=>some Qi.fn
  | 117=>some Qm.fn
  | 118=>some Qd.fn
  | 119=>some Qw.fn
  | 120=>some Xv.fn
  | 121=>some K1.fn
  | 122=>some J7.fn
  | 123=>some Qv.fn
  | 124=>some Xl.fn
  | 125=>some X1.fn
  | 126=>some X9.fn
  | 127=>some Zm.fn
  | 128=>some Jg.fn
  | 129=>some Vx.fn
  | 130=>some Ko.fn
  | 131=>some Gy.fn
  | 133=>some Ql.fn
  | 135=>some Gu.fn
  | _=>none
end Go.Proofs.YtpemapoblhleoaaGreatDoor.Ghost
