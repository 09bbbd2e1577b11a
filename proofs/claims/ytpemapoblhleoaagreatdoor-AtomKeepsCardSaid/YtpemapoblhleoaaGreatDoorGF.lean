/- The functions as ghost code. Conditions: none; no statement is proved here. -/
import Derived.Test.YtpemapoblhleoaaGreatDoorA1
set_option linter.unusedVariables false
set_option linter.unusedSimpArgs false
set_option linter.unusedSectionVars false
set_option linter.unnecessarySimpa false
namespace Go.Proofs.YtpemapoblhleoaaGreatDoor.Ghost
open Go
def o_ (d:Nat) (x:GOp):Ln:=⟨some d,x,none,[],[]⟩
def on_ (x:GOp):Ln:=⟨none,x,none,[],[]⟩
def og (d:Nat) (x:GOp) (g:Nat) (b:Bool):Ln:=⟨some d,x,some (g,b),[],[]⟩
def od (d:Nat) (x:GOp) (r w:List Nat):Ln:=⟨some d,x,none,r,w⟩
def ogd (d:Nat) (x:GOp) (g:Nat) (b:Bool) (r:List Nat):Ln:=⟨some d,x,some (g,b),r,[]⟩
def mv (d i:Nat):Ln:=⟨some d,.move (.t i),none,[],[]⟩
def ld (d:Nat) (t:Ty) (i:Nat):Ln:=⟨some d,.load (.d t) (.t i),none,[],[]⟩
def fa (d:Nat) (t:Ty) (j i:Nat):Ln:=⟨some d,.fieldAddr (.d t) j (.t i),none,[],[]⟩
def bi (d:Nat) (b:BinOp) (i j:Nat):Ln:=⟨some d,.bin b (.t i) (.t j),none,[],[]⟩
def bc (d:Nat) (b:BinOp) (i:Nat) (n:Int):Ln:=⟨some d,.bin b (.t i) (.c (.int .i64) n),none,[],[]⟩
def ix (d:Nat) (t:IT) (i j:Nat):Ln:=⟨some d,.index t (.t i) (.t j),none,[],[]⟩
def le (d i:Nat):Ln:=⟨some d,.len (.t i),none,[],[]⟩
def xt (d i j:Nat):Ln:=⟨some d,.extract (.t i) j,none,[],[]⟩
def nt (d i:Nat):Ln:=⟨some d,.not (.t i),none,[],[]⟩
def ci (d:Nat) (n:Int):Ln:=⟨some d,.move (.c (.int .i64) n),none,[],[]⟩
def sr (t:Ty) (i j:Nat):Ln:=⟨none,.store (.d t) (.t i) (.t j),none,[],[]⟩
def nb (d k:Nat) (t:Ty):Ln:=⟨some d,.newbox k t [],none,[],[]⟩
def bx (d k i:Nat):Ln:=⟨some d,.box k (.t i),none,[],[]⟩
def td (l:List Nat):Cd:=.tidy l [] [] none
abbrev Zx:Ty:=.st [(.sl (.arr 4 (.int .i64))),(.sl (.int .i64)),(.sl (.int .i64)),(.sl (.int .i64)),(.sl .bool),(.int .i64),(.int .i64),(.int .i64)]
abbrev Zb:Ty:=.st [(.int .i64),(.int .i64)]
abbrev Za:Ty:=.st [Zx,(.sl (.int .i64)),(.sl (.int .i64)),(.sl Zb)]
abbrev Z5:Ty:=.st [(.int .i64),(.int .i64),(.int .i64),(.int .i64),(.int .i64),(.sl (.int .i64)),(.int .i64),(.sl (.int .i64)),(.int .i64)]
abbrev Z7:Ty:=.st [(.int .i64),Zb]
abbrev Zm:Ty:=.st [(.int .i64),(.int .i64),(.int .i64),(.sl (.int .i64)),(.sl Z7),(.int .i64)]
abbrev Yb:Ty:=.st [(.int .i64),Z5,(.int .i64),(.int .i64),Zm]
abbrev Ud:Ty:=.st [(.int .i64),(.int .i64),(.int .i64),(.int .i64),(.int .i64),(.int .i64),(.int .i64)]
def BLs:Cd:=td [5,6]
def BLu:Cd:=td [7,8,9,10,11,12]
def BLw:Cd:=td [13,14,15,16,17,18]
def AZy:Cd:=td [19,20,21,22]
def AZz:Cd:=.skip
def AZ3:Cd:=.exit 0
def AZx:Cd:=.cond (.t 23) (.seq (td [23]) (AZz)) (.seq (td [23]) (AZ3))
def AZ1:Cd:=td [26,27,28,29,30,31,32,33,34,35,36]
def AZ2:Cd:=td [24,25]
def AZ0:Cd:=.seq (.reg false [mv 24 4,
    bc 25 .add 24 1,
    mv 4 25]) (AZ2)
def AZw:Cd:=.seq (.block 1 (.seq (.reg true [od 26 (.fieldAddr (.d Za) 3 (.t 3)) [2] [],
    od 27 (.load (.d (.sl Zb)) (.t 26)) [2] [],
    od 28 (.fieldAddr (.d Zx) 3 (.t 1)) [0] [],
    od 29 (.load (.d (.sl (.int .i64))) (.t 28)) [0] [],
    mv 30 4,
    ix 31 (.sl (.int .i64)) 29 30,
    ld 32 (.int .i64) 31,
    o_ 33 (.build Zb [(1,(.t 32))] []),
    od 34 (.slice 5 Zb [(.t 33)]) [] [5],
    od 35 (.append 6 Zb (.t 27) (.t 34)) [5] [6,9],
    od 36 (.fieldAddr (.d Za) 3 (.t 3)) [2] [],
    ⟨none,.store (.d (.sl Zb)) (.t 36) (.t 35),none,[],[2]⟩]) (AZ1))) (AZ0)
def AZv:Cd:=.tidy [] [(6,9)] [5] (some 10)
def BLz:Cd:=.seq (.seq (.seq (.seq (.reg false [mv 19 4,
    fa 20 Zx 3 1,
    o_ 21 (.load (.d (.sl (.int .i64))) (.t 20)),
    le 22 21,
    bi 23 .lss 19 22]) (AZy)) (AZx)) (AZw)) (AZv)
def BLy:Cd:=.block 0 (.loop (BLz))
def AZ5:Cd:=td [37]
def AZ4:Cd:=.ret
def BLx:Cd:=.seq (.seq (.reg false [ld 37 Za 3,
    sr Za 2 37]) (AZ5)) (AZ4)
def BLv:Cd:=.seq (.seq (.reg false [ci 4 0]) (BLy)) (BLx)
def BLt:Cd:=.seq (.seq (.reg false [fa 13 Za 2 3,
    o_ 14 (.load (.d (.sl (.int .i64))) (.t 13)),
    fa 15 Zx 2 1,
    o_ 16 (.load (.d (.sl (.int .i64))) (.t 15)),
    o_ 17 (.append 4 (.int .i64) (.t 14) (.t 16)),
    fa 18 Za 2 3,
    on_ (.store (.d (.sl (.int .i64))) (.t 18) (.t 17))]) (BLw)) (BLv)
def BLr:Cd:=.seq (.seq (.reg false [fa 7 Za 1 3,
    o_ 8 (.load (.d (.sl (.int .i64))) (.t 7)),
    fa 9 Zx 1 1,
    o_ 10 (.load (.d (.sl (.int .i64))) (.t 9)),
    o_ 11 (.append 3 (.int .i64) (.t 8) (.t 10)),
    fa 12 Za 1 3,
    on_ (.store (.d (.sl (.int .i64))) (.t 12) (.t 11))]) (BLu)) (BLt)
def BLq:Cd:=.seq (.seq (.reg false [ld 5 Zx 1,
    o_ 6 (.build Za [(0,(.t 5))] [([1],7),([2],8),([3],9)]),
    nb 3 2 Za,
    sr Za 3 6]) (BLs)) (BLr)
def Ju.fn:Fn:=⟨1,[.cell 2 (.d Za)],.seq (.reg false [bx 1 0 0,
    nb 2 1 Za]) (BLq)⟩
def BSv:Cd:=td [5,6,7,8,9,10,11]
def BSx:Cd:=.ret
def BSw:Cd:=.seq (.reg false [o_ 4 (.move (.c .str (⟨#[]⟩:ByteArray)))]) (BSx)
def BSy:Cd:=.skip
def BSu:Cd:=.cond (.t 12) (.seq (td [12]) (BSw)) (.seq (td [12]) (BSy))
def BS0:Cd:=td [13,14,15,16]
def BSz:Cd:=.ret
def BSt:Cd:=.seq (.seq (.reg false [mv 13 0,
    mv 14 1,
    ix 15 (.sl .str) 13 14,
    ld 16 .str 15,
    mv 4 16]) (BS0)) (BSz)
def BSs:Cd:=.seq (.seq (.seq (.reg false [mv 5 1,
    bc 6 .lss 5 0,
    mv 7 6,
    og 8 (.move (.t 1)) 7 false,
    og 9 (.move (.t 0)) 7 false,
    og 10 (.len (.t 9)) 7 false,
    og 11 (.bin .geq (.t 8) (.t 10)) 7 false,
    o_ 12 (.pick (.t 7) (.c .bool true) (.t 11))]) (BSv)) (BSu)) (BSt)
def Kp.fn:Fn:=⟨2,[.tmp 4],.seq (.reg false [o_ 4 (.move (.c .str (⟨#[]⟩:ByteArray)))]) (BSs)⟩
def BOa:Cd:=td [3,4,5]
def BN9:Cd:=.ret
def BN8:Cd:=.seq (.seq (.reg false [o_ 3 (.slicearr 11 .str (.g 0)),
    mv 4 0,
    o_ 5 (.call (.f 81) [(.t 3),(.t 4)] [.d .str] [] false),
    mv 2 5]) (BOa)) (BN9)
def K8.fn:Fn:=⟨1,[.tmp 2],.seq (.reg false [o_ 2 (.move (.c .str (⟨#[]⟩:ByteArray)))]) (BN8)⟩
def BOg:Cd:=td [4,5,6]
def BOj:Cd:=td [7]
def BOl:Cd:=td [10]
def BOn:Cd:=td [11,12,13]
def BOm:Cd:=.seq (.reg false [fa 11 Z5 1 1,
    ld 12 (.int .i64) 11,
    fa 13 Z5 1 3,
    sr (.int .i64) 13 12]) (BOn)
def BEf:Cd:=td [15]
def BEh:Cd:=td [16,17,18,19,20,21]
def BEg:Cd:=.seq (.reg true [od 16 (.fieldAddr (.d Z5) 4 (.t 1)) [0] [],
    od 17 (.load (.d (.int .i64)) (.t 16)) [0] [],
    od 18 (.fieldAddr (.d Z5) 1 (.t 1)) [0] [],
    od 19 (.load (.d (.int .i64)) (.t 18)) [0] [],
    od 20 (.fieldAddr (.d Z5) 4 (.t 3)) [2] [],
    ⟨none,.store (.d (.int .i64)) (.t 20) (.t 17),none,[],[2]⟩,
    od 21 (.fieldAddr (.d Z5) 1 (.t 3)) [2] [],
    ⟨none,.store (.d (.int .i64)) (.t 21) (.t 19),none,[],[2]⟩]) (BEh)
def BEl:Cd:=td [23]
def BE2:Cd:=td [24]
def BEk:Cd:=.cond (.t 22) (.skip) (.seq (.reg false [bc 24 .eql 8 4,
    mv 22 24]) (BE2))
def BEm:Cd:=td [25,26,27]
def BEp:Cd:=td [29]
def BE1:Cd:=td [30]
def BEo:Cd:=.cond (.t 28) (.skip) (.seq (.reg false [bc 30 .eql 8 6,
    mv 28 30]) (BE1))
def BEq:Cd:=td [31,32,33,34,35,36]
def BEs:Cd:=td [38]
def BEu:Cd:=td [39,40,41,42,43,44]
def BEt:Cd:=.seq (.reg true [od 39 (.fieldAddr (.d Z5) 2 (.t 1)) [0] [],
    od 40 (.load (.d (.int .i64)) (.t 39)) [0] [],
    od 41 (.fieldAddr (.d Z5) 4 (.t 1)) [0] [],
    od 42 (.load (.d (.int .i64)) (.t 41)) [0] [],
    od 43 (.fieldAddr (.d Z5) 2 (.t 3)) [2] [],
    ⟨none,.store (.d (.int .i64)) (.t 43) (.t 40),none,[],[2]⟩,
    od 44 (.fieldAddr (.d Z5) 4 (.t 3)) [2] [],
    ⟨none,.store (.d (.int .i64)) (.t 44) (.t 42),none,[],[2]⟩]) (BEu)
def BEx:Cd:=td [46]
def BEz:Cd:=td [47,48,49,50,51,52,53,54,55,56,57,58,59,60,61]
def BEy:Cd:=.seq (.reg true [od 47 (.fieldAddr (.d Z5) 4 (.t 1)) [0] [],
    od 48 (.load (.d (.int .i64)) (.t 47)) [0] [],
    od 49 (.fieldAddr (.d Z5) 5 (.t 1)) [0] [],
    od 50 (.load (.d (.sl (.int .i64))) (.t 49)) [0] [],
    od 51 (.fieldAddr (.d Z5) 6 (.t 1)) [0] [],
    od 52 (.load (.d (.int .i64)) (.t 51)) [0] [],
    od 53 (.fieldAddr (.d Z5) 7 (.t 1)) [0] [],
    od 54 (.load (.d (.sl (.int .i64))) (.t 53)) [0] [],
    od 55 (.fieldAddr (.d Z5) 8 (.t 1)) [0] [],
    od 56 (.load (.d (.int .i64)) (.t 55)) [0] [],
    od 57 (.fieldAddr (.d Z5) 4 (.t 3)) [2] [],
    ⟨none,.store (.d (.int .i64)) (.t 57) (.t 48),none,[],[2]⟩,
    od 58 (.fieldAddr (.d Z5) 5 (.t 3)) [2] [],
    ⟨none,.store (.d (.sl (.int .i64))) (.t 58) (.t 50),none,[],[2]⟩,
    od 59 (.fieldAddr (.d Z5) 6 (.t 3)) [2] [],
    ⟨none,.store (.d (.int .i64)) (.t 59) (.t 52),none,[],[2]⟩,
    od 60 (.fieldAddr (.d Z5) 7 (.t 3)) [2] [],
    ⟨none,.store (.d (.sl (.int .i64))) (.t 60) (.t 54),none,[],[2]⟩,
    od 61 (.fieldAddr (.d Z5) 8 (.t 3)) [2] [],
    ⟨none,.store (.d (.int .i64)) (.t 61) (.t 56),none,[],[2]⟩]) (BEz)
def BE0:Cd:=.skip
def BEw:Cd:=.cond (.t 45) (.seq (td [45]) (BEy)) (.seq (td [45]) (BE0))
def BEv:Cd:=.seq (.seq (.reg false [bc 46 .eql 8 8,
    mv 45 46]) (BEx)) (BEw)
def BEr:Cd:=.cond (.t 37) (.seq (td [37]) (BEt)) (.seq (td [37]) (BEv))
def BEn:Cd:=.cond (.t 28) (.seq (.reg true [od 31 (.fieldAddr (.d Z5) 2 (.t 1)) [0] [],
    od 32 (.load (.d (.int .i64)) (.t 31)) [0] [],
    od 33 (.fieldAddr (.d Z5) 3 (.t 1)) [0] [],
    od 34 (.load (.d (.int .i64)) (.t 33)) [0] [],
    od 35 (.fieldAddr (.d Z5) 2 (.t 3)) [2] [],
    ⟨none,.store (.d (.int .i64)) (.t 35) (.t 32),none,[],[2]⟩,
    od 36 (.fieldAddr (.d Z5) 3 (.t 3)) [2] [],
    ⟨none,.store (.d (.int .i64)) (.t 36) (.t 34),none,[],[2]⟩]) (BEq)) (.seq (.seq (.reg false [bc 38 .eql 8 7,
    mv 37 38]) (BEs)) (BEr))
def BEj:Cd:=.cond (.t 22) (.seq (.reg false [fa 25 Z5 2 1,
    ld 26 (.int .i64) 25,
    fa 27 Z5 2 3,
    sr (.int .i64) 27 26]) (BEm)) (.seq (.seq (.seq (.reg false [bc 29 .eql 8 5,
    mv 28 29]) (BEp)) (BEo)) (BEn))
def BEi:Cd:=.seq (.seq (.seq (.reg false [bc 23 .eql 8 3,
    mv 22 23]) (BEl)) (BEk)) (BEj)
def BEe:Cd:=.cond (.t 14) (.seq (td [14]) (BEg)) (.seq (td [14]) (BEi))
def BEd:Cd:=.seq (.seq (.reg false [bc 15 .eql 8 2,
    mv 14 15]) (BEf)) (BEe)
def BOk:Cd:=.cond (.t 9) (.seq (td [9]) (BOm)) (.seq (td [9]) (BEd))
def BOi:Cd:=.block 0 (.seq (.seq (.reg false [bc 10 .eql 8 1,
    mv 9 10]) (BOl)) (BOk))
def BEc:Cd:=td [62]
def BEb:Cd:=.ret
def BOh:Cd:=.seq (.seq (.reg false [ld 62 Z5 3,
    sr Z5 2 62]) (BEc)) (BEb)
def BOf:Cd:=.seq (.seq (.seq (.reg false [fa 7 Z5 0 1,
    ld 8 (.int .i64) 7]) (BOj)) (BOi)) (BOh)
def BOe:Cd:=.seq (.seq (.reg false [fa 4 Z5 0 1,
    ld 5 (.int .i64) 4,
    o_ 6 (.build Z5 [(0,(.t 5))] []),
    nb 3 2 Z5,
    sr Z5 3 6]) (BOg)) (BOf)
def Qe.fn:Fn:=⟨1,[.cell 2 (.d Z5)],.seq (.reg false [bx 1 0 0,
    nb 2 1 Z5]) (BOe)⟩
def BS3:Cd:=td [3,4,5,6,7,8,9,10,11,12,13,14,15,16,17]
def BS2:Cd:=.ret
def BS1:Cd:=.seq (.seq (.reg false [fa 3 Z5 0 1,
    ld 4 (.int .i64) 3,
    fa 5 Z5 1 1,
    ld 6 (.int .i64) 5,
    fa 7 Z5 2 1,
    ld 8 (.int .i64) 7,
    fa 9 Z5 3 1,
    ld 10 (.int .i64) 9,
    fa 11 Z5 4 1,
    ld 12 (.int .i64) 11,
    fa 13 Z5 6 1,
    ld 14 (.int .i64) 13,
    fa 15 Z5 8 1,
    ld 16 (.int .i64) 15,
    o_ 17 (.build Ud [(0,(.t 4)),(1,(.t 6)),(2,(.t 8)),(3,(.t 10)),(4,(.t 12)),(5,(.t 14)),(6,(.t 16))] []),
    sr Ud 2 17]) (BS3)) (BS2)
def Ui.fn:Fn:=⟨1,[.cell 2 (.d Ud)],.seq (.reg false [bx 1 0 0,
    nb 2 1 Ud]) (BS1)⟩
def BS7:Cd:=td [6,7,8,9]
def BS9:Cd:=.ret
def BS8:Cd:=.seq (.reg false [o_ 4 (.move (.c .bool false))]) (BS9)
def BTa:Cd:=.skip
def BS6:Cd:=.cond (.t 10) (.seq (td [10]) (BS8)) (.seq (td [10]) (BTa))
def BTc:Cd:=td [11]
def BHy:Cd:=.skip
def BH8:Cd:=.exit 0
def BH1:Cd:=td [15]
def BH3:Cd:=td [16,17,18,19,20,21,22,23]
def BH5:Cd:=.ret
def BH4:Cd:=.seq (.reg false [o_ 4 (.move (.c .bool false))]) (BH5)
def BH6:Cd:=.skip
def BH2:Cd:=.cond (.t 24) (.seq (td [24]) (BH4)) (.seq (td [24]) (BH6))
def BH0:Cd:=.seq (.seq (.reg true [mv 16 0,
    mv 17 5,
    ix 18 (.sl (.int .i64)) 16 17,
    ld 19 (.int .i64) 18,
    mv 20 1,
    mv 21 5,
    ix 22 (.sl (.int .i64)) 20 21,
    ld 23 (.int .i64) 22,
    bi 24 .neq 19 23]) (BH3)) (BH2)
def BH7:Cd:=td [25]
def BHz:Cd:=.seq (.reg false [bc 25 .add 13 1,
    mv 13 25]) (BH7)
def BHx:Cd:=.seq (.block 1 (.seq (.seq (.reg false [mv 15 13,
    mv 5 15]) (BH1)) (BH0))) (BHz)
def BHw:Cd:=.seq (.cond (.t 14) (.seq (td [14]) (BHy)) (.seq (td [14]) (BH8))) (BHx)
def BHv:Cd:=.tidy [5] [] [] (some 0)
def AKx:Cd:=.seq (.seq (.reg false [bi 14 .lss 13 12]) (BHw)) (BHv)
def BTb:Cd:=.block 0 (.loop (AKx))
def BH9:Cd:=.ret
def ARo:Cd:=.seq (.reg false [o_ 4 (.move (.c .bool true))]) (BH9)
def BS5:Cd:=.seq (.seq (.seq (.reg false [mv 11 0,
    le 12 11,
    ci 13 0]) (BTc)) (BTb)) (ARo)
def BS4:Cd:=.seq (.seq (.seq (.reg false [mv 6 0,
    le 7 6,
    mv 8 1,
    le 9 8,
    bi 10 .neq 7 9]) (BS7)) (BS6)) (BS5)
def Zo.fn:Fn:=⟨2,[.tmp 4],.seq (.reg false [o_ 4 (.move (.c .bool false))]) (BS4)⟩
def BOd:Cd:=td [5,6,7,8,9,10,11,12,13,14,15,16,17,18,19,20,21,22,23]
def BOc:Cd:=.ret
def BOb:Cd:=.seq (.seq (.reg true [od 5 (.load (.d Z5) (.t 2)) [0] [],
    o_ 6 (.call (.f 82) [(.t 5)] [.d Ud] [] false),
    od 7 (.load (.d Z5) (.t 3)) [1] [],
    o_ 8 (.call (.f 82) [(.t 7)] [.d Ud] [] false),
    o_ 9 (.eqs Ud false (.t 6) (.t 8)),
    mv 10 9,
    ogd 11 (.fieldAddr (.d Z5) 5 (.t 2)) 10 true [0],
    ogd 12 (.load (.d (.sl (.int .i64))) (.t 11)) 10 true [0],
    ogd 13 (.fieldAddr (.d Z5) 5 (.t 3)) 10 true [1],
    ogd 14 (.load (.d (.sl (.int .i64))) (.t 13)) 10 true [1],
    og 15 (.call (.f 83) [(.t 12),(.t 14)] [.d .bool] [] false) 10 true,
    o_ 16 (.pick (.t 10) (.t 15) (.c .bool false)),
    mv 17 16,
    ogd 18 (.fieldAddr (.d Z5) 7 (.t 2)) 17 true [0],
    ogd 19 (.load (.d (.sl (.int .i64))) (.t 18)) 17 true [0],
    ogd 20 (.fieldAddr (.d Z5) 7 (.t 3)) 17 true [1],
    ogd 21 (.load (.d (.sl (.int .i64))) (.t 20)) 17 true [1],
    og 22 (.call (.f 83) [(.t 19),(.t 21)] [.d .bool] [] false) 17 true,
    o_ 23 (.pick (.t 17) (.t 22) (.c .bool false)),
    mv 4 23]) (BOd)) (BOc)
def K9.fn:Fn:=⟨2,[.tmp 4],.seq (.reg false [bx 2 0 0,
    bx 3 1 1,
    o_ 4 (.move (.c .bool false))]) (BOb)⟩
def BOq:Cd:=td [3,4,5]
def BOp:Cd:=.ret
def BOo:Cd:=.seq (.seq (.reg false [o_ 3 (.slicearr 4 .str (.g 1)),
    mv 4 0,
    o_ 5 (.call (.f 81) [(.t 3),(.t 4)] [.d .str] [] false),
    mv 2 5]) (BOq)) (BOp)
def Gj.fn:Fn:=⟨1,[.tmp 2],.seq (.reg false [o_ 2 (.move (.c .str (⟨#[]⟩:ByteArray)))]) (BOo)⟩
def BOt:Cd:=td [3,4,5,6,7,8]
def BOs:Cd:=.ret
def BOr:Cd:=.seq (.seq (.reg false [mv 3 0,
    bc 4 .geq 3 0,
    mv 5 4,
    og 6 (.move (.t 0)) 5 true,
    og 7 (.bin .leq (.t 6) (.c (.int .i64) (1073741824:Int))) 5 true,
    o_ 8 (.pick (.t 5) (.t 7) (.c .bool false)),
    mv 2 8]) (BOt)) (BOs)
def Kd.fn:Fn:=⟨1,[.tmp 2],.seq (.reg false [o_ 2 (.move (.c .bool false))]) (BOr)⟩
def BTi:Cd:=td [3,4,5]
def BTh:Cd:=.ret
def BTg:Cd:=.seq (.seq (.reg false [mv 3 0,
    o_ 4 (.call (.f 49) [(.t 3)] [.d .bool] [] false),
    nt 5 4,
    mv 2 5]) (BTi)) (BTh)
def V5.fn:Fn:=⟨1,[.tmp 2],.seq (.reg false [o_ 2 (.move (.c .bool false))]) (BTg)⟩
def AU5:Cd:=td [6]
def AU9:Cd:=.skip
def APc:Cd:=.exit 0
def AO4:Cd:=td [10]
def AO6:Cd:=td [11,12,13,14,15]
def AO9:Cd:=td [17]
def AO8:Cd:=.ret
def AO7:Cd:=.seq (.seq (.reg false [mv 17 5,
    mv 4 17]) (AO9)) (AO8)
def APa:Cd:=.skip
def AO5:Cd:=.cond (.t 16) (.seq (td [16]) (AO7)) (.seq (td [16]) (APa))
def AO3:Cd:=.seq (.seq (.reg false [mv 11 1,
    mv 12 0,
    mv 13 5,
    ix 14 (.sl (.int .i64)) 12 13,
    ld 15 (.int .i64) 14,
    o_ 16 (.call (.t 11) [(.t 15)] [.d .bool] [] false)]) (AO6)) (AO5)
def APb:Cd:=td [18]
def AVa:Cd:=.seq (.reg false [bc 18 .add 8 1,
    mv 8 18]) (APb)
def AU8:Cd:=.seq (.block 1 (.seq (.seq (.reg false [mv 10 8,
    mv 5 10]) (AO4)) (AO3))) (AVa)
def AU7:Cd:=.seq (.cond (.t 9) (.seq (td [9]) (AU9)) (.seq (td [9]) (APc))) (AU8)
def AU6:Cd:=.tidy [5] [] [] (some 0)
def AA2:Cd:=.seq (.seq (.reg false [bi 9 .lss 8 7]) (AU7)) (AU6)
def AU4:Cd:=.block 0 (.loop (AA2))
def APd:Cd:=.ret
def AA1:Cd:=.seq (.reg false [o_ 4 (.move (.c (.int .i64) ((-1):Int)))]) (APd)
def AU3:Cd:=.seq (.seq (.seq (.reg false [mv 6 0,
    le 7 6,
    ci 8 0]) (AU5)) (AU4)) (AA1)
def Zh.fn:Fn:=⟨2,[.tmp 4],.seq (.reg false [ci 4 0]) (AU3)⟩
def BTf:Cd:=td [5,6,7,8]
def BTe:Cd:=.ret
def BTd:Cd:=.seq (.seq (.reg false [mv 5 0,
    mv 6 1,
    o_ 7 (.call (.f 127) [(.t 5),(.t 6)] [.d (.int .i64)] [] false),
    bc 8 .geq 7 0,
    mv 4 8]) (BTf)) (BTe)
def Xa.fn:Fn:=⟨2,[.tmp 4],.seq (.reg false [o_ 4 (.move (.c .bool false))]) (BTd)⟩
def BPt:Cd:=td [3,4,5,6,7,8,9,10]
def BPs:Cd:=.ret
def BPr:Cd:=.seq (.seq (.reg false [mv 3 0,
    le 4 3,
    bc 5 .leq 4 16,
    mv 6 5,
    og 7 (.move (.t 0)) 6 true,
    og 8 (.call (.f 84) [(.t 7),(.f 85)] [.d .bool] [] false) 6 true,
    og 9 (.not (.t 8)) 6 true,
    o_ 10 (.pick (.t 6) (.t 9) (.c .bool false)),
    mv 2 10]) (BPt)) (BPs)
def Hz.fn:Fn:=⟨1,[.tmp 2],.seq (.reg false [o_ 2 (.move (.c .bool false))]) (BPr)⟩
def BMh:Cd:=td [3,4,5,6,7,8,9,10,11,12,13,14,15,16,17,18,19,20,21,22,23,24,25,26,27,28,29,30,31,32,33,34,35,36,37,38,39,40,41,42,43,44,45,46,47,48,49,50,51,52,53]
def BMg:Cd:=.ret
def BMf:Cd:=.seq (.seq (.reg true [od 3 (.fieldAddr (.d Z5) 0 (.t 1)) [0] [],
    od 4 (.load (.d (.int .i64)) (.t 3)) [0] [],
    o_ 5 (.call (.f 45) [(.t 4)] [.d .str] [] false),
    o_ 6 (.eqs .str true (.t 5) (.c .str (⟨#[]⟩:ByteArray))),
    mv 7 6,
    ogd 8 (.load (.d Z5) (.t 1)) 7 true [0],
    ogd 9 (.load (.d Z5) (.t 1)) 7 true [0],
    og 10 (.call (.f 47) [(.t 9)] [.d Z5] [] false) 7 true,
    og 11 (.call (.f 46) [(.t 8),(.t 10)] [.d .bool] [] false) 7 true,
    o_ 12 (.pick (.t 7) (.t 11) (.c .bool false)),
    mv 13 12,
    ogd 14 (.fieldAddr (.d Z5) 1 (.t 1)) 13 true [0],
    ogd 15 (.load (.d (.int .i64)) (.t 14)) 13 true [0],
    og 16 (.call (.f 48) [(.t 15)] [.d .str] [] false) 13 true,
    og 17 (.eqs .str true (.t 16) (.c .str (⟨#[]⟩:ByteArray))) 13 true,
    o_ 18 (.pick (.t 13) (.t 17) (.c .bool false)),
    mv 19 18,
    ogd 20 (.fieldAddr (.d Z5) 2 (.t 1)) 19 true [0],
    ogd 21 (.load (.d (.int .i64)) (.t 20)) 19 true [0],
    og 22 (.call (.f 49) [(.t 21)] [.d .bool] [] false) 19 true,
    o_ 23 (.pick (.t 19) (.t 22) (.c .bool false)),
    mv 24 23,
    ogd 25 (.fieldAddr (.d Z5) 3 (.t 1)) 24 true [0],
    ogd 26 (.load (.d (.int .i64)) (.t 25)) 24 true [0],
    og 27 (.call (.f 49) [(.t 26)] [.d .bool] [] false) 24 true,
    o_ 28 (.pick (.t 24) (.t 27) (.c .bool false)),
    mv 29 28,
    ogd 30 (.fieldAddr (.d Z5) 4 (.t 1)) 29 true [0],
    ogd 31 (.load (.d (.int .i64)) (.t 30)) 29 true [0],
    og 32 (.call (.f 49) [(.t 31)] [.d .bool] [] false) 29 true,
    o_ 33 (.pick (.t 29) (.t 32) (.c .bool false)),
    mv 34 33,
    ogd 35 (.fieldAddr (.d Z5) 6 (.t 1)) 34 true [0],
    ogd 36 (.load (.d (.int .i64)) (.t 35)) 34 true [0],
    og 37 (.call (.f 49) [(.t 36)] [.d .bool] [] false) 34 true,
    o_ 38 (.pick (.t 34) (.t 37) (.c .bool false)),
    mv 39 38,
    ogd 40 (.fieldAddr (.d Z5) 8 (.t 1)) 39 true [0],
    ogd 41 (.load (.d (.int .i64)) (.t 40)) 39 true [0],
    og 42 (.call (.f 49) [(.t 41)] [.d .bool] [] false) 39 true,
    o_ 43 (.pick (.t 39) (.t 42) (.c .bool false)),
    mv 44 43,
    ogd 45 (.fieldAddr (.d Z5) 5 (.t 1)) 44 true [0],
    ogd 46 (.load (.d (.sl (.int .i64))) (.t 45)) 44 true [0],
    og 47 (.call (.f 50) [(.t 46)] [.d .bool] [] false) 44 true,
    o_ 48 (.pick (.t 44) (.t 47) (.c .bool false)),
    mv 49 48,
    ogd 50 (.fieldAddr (.d Z5) 7 (.t 1)) 49 true [0],
    ogd 51 (.load (.d (.sl (.int .i64))) (.t 50)) 49 true [0],
    og 52 (.call (.f 50) [(.t 51)] [.d .bool] [] false) 49 true,
    o_ 53 (.pick (.t 49) (.t 52) (.c .bool false)),
    mv 2 53]) (BMh)) (BMg)
def K0.fn:Fn:=⟨1,[.tmp 2],.seq (.reg false [bx 1 0 0,
    o_ 2 (.move (.c .bool false))]) (BMf)⟩
def AWs:Cd:=td [5]
def AWr:Cd:=.ret
def AWq:Cd:=.seq (.seq (.reg false [o_ 5 (.func 138 [(.t 2),(.t 3)]),
    mv 4 5]) (AWs)) (AWr)
def H6.fn:Fn:=⟨2,[.tmp 4],.seq (.reg false [bx 2 0 0,
    bx 3 1 1,
    o_ 4 (.move .nf)]) (AWq)⟩
def AWn:Cd:=td [6,7,8,9]
def AWp:Cd:=td [10,11,12,13,14,15]
def AWo:Cd:=.ret
def AWm:Cd:=.seq (.seq (.reg false [mv 10 5,
    mv 11 5,
    le 12 11,
    bc 13 .sub 12 1,
    ix 14 (.sl Zb) 10 13,
    ld 15 Zb 14,
    sr Zb 4 15]) (AWp)) (AWo)
def AWl:Cd:=.seq (.seq (.reg false [ld 6 Za 2,
    mv 7 1,
    o_ 8 (.call (.f 131) [(.t 6),(.t 7)] [.clo 138 [.ref Za,.ref (.int .i64)]] [] false),
    o_ 9 (.call (.f 132) [(.t 8)] [.d (.sl Zb)] [] false),
    mv 5 9]) (AWn)) (AWm)
def Vu.fn:Fn:=⟨2,[.cell 4 (.d Zb)],.seq (.reg false [bx 2 0 0,
    nb 4 1 Zb]) (AWl)⟩
def AUy:Cd:=td [8]
def AU2:Cd:=.skip
def AO0:Cd:=.exit 0
def AOt:Cd:=td [13,14,15]
def AOv:Cd:=td [16,17,18,19]
def AOx:Cd:=td [21,22,23,24,25,26]
def AOw:Cd:=.seq (.reg false [mv 21 5,
    mv 22 6,
    ld 23 Zb 7,
    o_ 24 (.build Z7 [(0,(.t 22)),(1,(.t 23))] []),
    o_ 25 (.slice 3 Z7 [(.t 24)]),
    o_ 26 (.append 4 Z7 (.t 21) (.t 25)),
    mv 5 26]) (AOx)
def AOz:Cd:=.skip
def AOu:Cd:=.cond (.t 20) (.seq (td [20]) (AOw)) (.seq (td [20]) (AOz))
def AOs:Cd:=.seq (.seq (.reg true [od 16 (.load (.d Za) (.t 2)) [0] [],
    mv 17 6,
    o_ 18 (.call (.f 130) [(.t 16),(.t 17)] [.d Zb] [] false),
    od 19 (.load (.d Zb) (.t 3)) [1] [],
    o_ 20 (.eqs Zb false (.t 18) (.t 19))]) (AOv)) (AOu)
def AOy:Cd:=td [27]
def AOr:Cd:=.seq (.reg false [bc 27 .add 11 1,
    mv 11 27]) (AOy)
def AU1:Cd:=.seq (.block 1 (.seq (.seq (.reg false [mv 13 11,
    ix 14 (.sl Zb) 9 11,
    ld 15 Zb 14,
    nb 7 2 Zb,
    mv 6 13,
    sr Zb 7 15]) (AOt)) (AOs))) (AOr)
def AU0:Cd:=.seq (.cond (.t 12) (.seq (td [12]) (AU2)) (.seq (td [12]) (AO0))) (AU1)
def AUz:Cd:=.tidy [6,7] [(4,5)] [2,3] (some 6)
def AJ5:Cd:=.seq (.seq (.reg false [bi 12 .lss 11 10]) (AU0)) (AUz)
def AUx:Cd:=.block 0 (.loop (AJ5))
def AO2:Cd:=td [28]
def AO1:Cd:=.ret
def AJ4:Cd:=.seq (.seq (.reg false [mv 28 5,
    mv 4 28]) (AO2)) (AO1)
def AUw:Cd:=.seq (.seq (.seq (.reg false [fa 8 Za 3 2,
    ld 9 (.sl Zb) 8,
    le 10 9,
    ci 11 0]) (AUy)) (AUx)) (AJ4)
def AUv:Cd:=.seq (.reg false [o_ 5 (.mknil 5 Z7)]) (AUw)
def Xt.fn:Fn:=⟨2,[.tmp 4],.seq (.reg false [bx 2 0 0,
    bx 3 1 1,
    o_ 4 (.move (.c (.sl Z7) []))]) (AUv)⟩
def BSg:Cd:=td [5,6,7,8,9,10,11,12,13,14]
def BSf:Cd:=.ret
def BSe:Cd:=.seq (.seq (.reg true [od 5 (.fieldAddr (.d Za) 2 (.t 2)) [0] [],
    od 6 (.load (.d (.sl (.int .i64))) (.t 5)) [0] [],
    mv 7 1,
    ix 8 (.sl (.int .i64)) 6 7,
    ld 9 (.int .i64) 8,
    od 10 (.load (.d Za) (.t 2)) [0] [],
    mv 11 1,
    o_ 12 (.build Zb [(0,(.c (.int .i64) (1:Int))),(1,(.t 11))] []),
    o_ 13 (.call (.f 125) [(.t 10),(.t 12)] [.d (.sl Z7)] [] false),
    o_ 14 (.build Zm [(1,(.c (.int .i64) (10:Int))),(5,(.t 9)),(4,(.t 13))] []),
    ⟨none,.store (.d Zm) (.t 4) (.t 14),none,[],[1]⟩]) (BSg)) (BSf)
def V9.fn:Fn:=⟨2,[.cell 4 (.d Zm)],.seq (.reg false [bx 2 0 0,
    nb 4 1 Zm]) (BSe)⟩
def AUk:Cd:=td [6]
def AUm:Cd:=td [9,10,11,12,13]
def AUl:Cd:=.ret
def AUj:Cd:=.seq (.seq (.reg true [od 9 (.load (.d Za) (.t 4)) [0] [],
    o_ 10 (.load (.v false 1) (.t 3)),
    od 11 (.load (.d Za) (.t 4)) [0] [],
    mv 12 1,
    o_ 13 (.call (.t 10) [(.t 11),(.t 12)] [.d Zm] [] false),
    ⟨none,.store (.d Za) (.t 7) (.t 9),none,[],[2]⟩,
    ⟨none,.store (.d Zm) (.t 8) (.t 13),none,[],[3]⟩]) (AUm)) (AUl)
def Y3.fn:Fn:=⟨4,[.cell 7 (.d Za),.cell 8 (.d Zm)],.seq (.seq (.reg false [bx 4 0 0,
    bx 6 1 2,
    nb 7 2 Za,
    nb 8 3 Zm]) (AUk)) (AUj)⟩
def AUq:Cd:=td [7,8]
def AUu:Cd:=.skip
def AOo:Cd:=.exit 0
def AOh:Cd:=td [12]
def AOj:Cd:=td [13,14,15,16,17,18]
def AOl:Cd:=td [20,21,22,23]
def AOk:Cd:=.seq (.reg false [mv 20 5,
    mv 21 6,
    o_ 22 (.slice 1 (.int .i64) [(.t 21)]),
    o_ 23 (.append 2 (.int .i64) (.t 20) (.t 22)),
    mv 5 23]) (AOl)
def AOn:Cd:=.skip
def AOi:Cd:=.cond (.t 19) (.seq (td [19]) (AOk)) (.seq (td [19]) (AOn))
def AOg:Cd:=.seq (.seq (.reg false [fa 13 Za 1 2,
    o_ 14 (.load (.d (.sl (.int .i64))) (.t 13)),
    mv 15 6,
    ix 16 (.sl (.int .i64)) 14 15,
    ld 17 (.int .i64) 16,
    mv 18 1,
    bi 19 .eql 17 18]) (AOj)) (AOi)
def AOm:Cd:=td [24]
def AOf:Cd:=.seq (.reg false [bc 24 .add 10 1,
    mv 10 24]) (AOm)
def AUt:Cd:=.seq (.block 1 (.seq (.seq (.reg false [mv 12 10,
    mv 6 12]) (AOh)) (AOg))) (AOf)
def AUs:Cd:=.seq (.cond (.t 11) (.seq (td [11]) (AUu)) (.seq (td [11]) (AOo))) (AUt)
def AUr:Cd:=.tidy [6] [(2,3)] [1] (some 4)
def AJ3:Cd:=.seq (.seq (.reg false [bi 11 .lss 10 9]) (AUs)) (AUr)
def AUp:Cd:=.block 0 (.loop (AJ3))
def AOq:Cd:=td [25]
def AOp:Cd:=.ret
def AJ2:Cd:=.seq (.seq (.reg false [mv 25 5,
    mv 4 25]) (AOq)) (AOp)
def AUo:Cd:=.seq (.seq (.seq (.reg false [fa 7 Za 1 2,
    o_ 8 (.load (.d (.sl (.int .i64))) (.t 7)),
    le 9 8,
    ci 10 0]) (AUq)) (AUp)) (AJ2)
def AUn:Cd:=.seq (.reg false [o_ 5 (.mknil 3 (.int .i64))]) (AUo)
def Xb.fn:Fn:=⟨2,[.tmp 4],.seq (.reg false [bx 2 0 0,
    o_ 4 (.move (.c (.sl (.int .i64)) []))]) (AUn)⟩
def BSb:Cd:=td [6,7,8,9,10]
def BSd:Cd:=td [11,12,13,14,15,16,17,18,19]
def BSc:Cd:=.ret
def BSa:Cd:=.seq (.seq (.reg true [mv 11 5,
    od 12 (.load (.d Za) (.t 2)) [0] [],
    mv 13 5,
    o_ 14 (.call (.f 124) [(.t 12),(.t 13)] [.d (.sl (.int .i64))] [] false),
    od 15 (.load (.d Za) (.t 2)) [0] [],
    mv 16 5,
    o_ 17 (.build Zb [(0,(.c (.int .i64) (0:Int))),(1,(.t 16))] []),
    o_ 18 (.call (.f 125) [(.t 15),(.t 17)] [.d (.sl Z7)] [] false),
    o_ 19 (.build Zm [(1,(.c (.int .i64) (9:Int))),(2,(.t 11)),(3,(.t 14)),(4,(.t 18))] []),
    ⟨none,.store (.d Zm) (.t 4) (.t 19),none,[],[1]⟩]) (BSd)) (BSc)
def BR9:Cd:=.seq (.seq (.reg false [fa 6 Za 1 2,
    o_ 7 (.load (.d (.sl (.int .i64))) (.t 6)),
    mv 8 1,
    ix 9 (.sl (.int .i64)) 7 8,
    ld 10 (.int .i64) 9,
    mv 5 10]) (BSb)) (BSa)
def Vi.fn:Fn:=⟨2,[.cell 4 (.d Zm)],.seq (.reg false [bx 2 0 0,
    nb 4 1 Zm]) (BR9)⟩
def ATj:Cd:=td [5,6,7,8,9,10,11,12,13]
def ATi:Cd:=.ret
def ATh:Cd:=.seq (.seq (.reg false [mv 5 1,
    bc 6 .geq 5 0,
    mv 7 6,
    og 8 (.move (.t 1)) 7 true,
    og 9 (.fieldAddr (.d Za) 1 (.t 2)) 7 true,
    og 10 (.load (.d (.sl (.int .i64))) (.t 9)) 7 true,
    og 11 (.len (.t 10)) 7 true,
    og 12 (.bin .lss (.t 8) (.t 11)) 7 true,
    o_ 13 (.pick (.t 7) (.t 12) (.c .bool false)),
    mv 4 13]) (ATj)) (ATi)
def Y6.fn:Fn:=⟨2,[.tmp 4],.seq (.reg false [bx 2 0 0,
    o_ 4 (.move (.c .bool false))]) (ATh)⟩
def ATg:Cd:=td [5,6,7,8,9,10,11,12,13]
def ATf:Cd:=.ret
def ATe:Cd:=.seq (.seq (.reg false [mv 5 1,
    bc 6 .geq 5 0,
    mv 7 6,
    og 8 (.move (.t 1)) 7 true,
    og 9 (.fieldAddr (.d Za) 3 (.t 2)) 7 true,
    og 10 (.load (.d (.sl Zb)) (.t 9)) 7 true,
    og 11 (.len (.t 10)) 7 true,
    og 12 (.bin .lss (.t 8) (.t 11)) 7 true,
    o_ 13 (.pick (.t 7) (.t 12) (.c .bool false)),
    mv 4 13]) (ATg)) (ATf)
def Kr.fn:Fn:=⟨2,[.tmp 4],.seq (.reg false [bx 2 0 0,
    o_ 4 (.move (.c .bool false))]) (ATe)⟩
def ATv:Cd:=td [4,5,6,7]
def ATu:Cd:=.ret
def ATt:Cd:=.seq (.seq (.reg false [ld 4 Za 1,
    mv 5 0,
    o_ 6 (.call (.f 113) [(.t 4),(.t 5)] [.d .bool] [] false),
    nt 7 6,
    mv 3 7]) (ATv)) (ATu)
def Y4.fn:Fn:=⟨2,[.tmp 3],.seq (.reg false [o_ 3 (.move (.c .bool false))]) (ATt)⟩
def ATy:Cd:=td [6]
def AT3:Cd:=.skip
def AN1:Cd:=.exit 0
def ANs:Cd:=td [11,12]
def ANv:Cd:=td [13,14]
def ANx:Cd:=.ret
def ANw:Cd:=.seq (.reg false [o_ 2 (.move (.c .bool true))]) (ANx)
def ANy:Cd:=.skip
def ANu:Cd:=.cond (.t 15) (.seq (td [15]) (ANw)) (.seq (td [15]) (ANy))
def ANz:Cd:=td [16,17]
def ANt:Cd:=.seq (.reg false [mv 16 3,
    mv 17 5,
    on_ (.mapset (.int .i64) .bool (.t 16) (.t 17) (.c .bool true))]) (ANz)
def ANr:Cd:=.seq (.seq (.seq (.reg false [mv 13 3,
    mv 14 5,
    o_ 15 (.lookup (.int .i64) .bool (.t 13) (.t 14))]) (ANv)) (ANu)) (ANt)
def AN0:Cd:=td [18]
def ANq:Cd:=.seq (.reg false [bc 18 .add 9 1,
    mv 9 18]) (AN0)
def AT2:Cd:=.seq (.block 1 (.seq (.seq (.reg false [ix 11 (.sl (.int .i64)) 7 9,
    ld 12 (.int .i64) 11,
    mv 5 12]) (ANs)) (ANr))) (ANq)
def AT1:Cd:=.seq (.cond (.t 10) (.seq (td [10]) (AT3)) (.seq (td [10]) (AN1))) (AT2)
def AT0:Cd:=.tidy [5] [] [] (some 1)
def AJ1:Cd:=.seq (.seq (.reg false [bi 10 .lss 9 8]) (AT1)) (AT0)
def ATz:Cd:=.block 0 (.loop (AJ1))
def AN2:Cd:=.ret
def AJ0:Cd:=.seq (.reg false [o_ 2 (.move (.c .bool false))]) (AN2)
def ATx:Cd:=.seq (.seq (.reg false [mv 7 0,
    le 8 7,
    ci 9 0]) (ATz)) (AJ0)
def ATw:Cd:=.seq (.seq (.reg false [o_ 6 (.mkmap 0 (.int .i64) .bool),
    mv 3 6]) (ATy)) (ATx)
def Xo.fn:Fn:=⟨1,[.tmp 2],.seq (.reg false [o_ 2 (.move (.c .bool false))]) (ATw)⟩
def ATm:Cd:=td [3,4]
def ATl:Cd:=.ret
def ATk:Cd:=.seq (.seq (.reg false [mv 3 0,
    o_ 4 (.build Zb [(0,(.c (.int .i64) (1:Int))),(1,(.t 3))] []),
    sr Zb 2 4]) (ATm)) (ATl)
def Ys.fn:Fn:=⟨1,[.cell 2 (.d Zb)],.seq (.reg false [nb 2 0 Zb]) (ATk)⟩
def ATs:Cd:=td [5,6,7,8,9,10,11,12]
def ATr:Cd:=.ret
def ATq:Cd:=.seq (.seq (.reg true [fa 5 Za 3 1,
    ld 6 (.sl Zb) 5,
    mv 7 0,
    ix 8 (.sl Zb) 6 7,
    ld 9 Zb 8,
    ld 10 (.int .i64) 2,
    o_ 11 (.call (.f 115) [(.t 10)] [.d Zb] [] false),
    o_ 12 (.eqs Zb true (.t 9) (.t 11)),
    mv 4 12]) (ATs)) (ATr)
def Ym.fn:Fn:=⟨3,[.tmp 4],.seq (.reg false [o_ 4 (.move (.c .bool false))]) (ATq)⟩
def ATp:Cd:=td [6,7,8]
def ATo:Cd:=.ret
def ATn:Cd:=.seq (.seq (.reg false [mv 6 0,
    o_ 7 (.func 118 [(.t 2),(.t 4)]),
    o_ 8 (.call (.f 84) [(.t 6),(.t 7)] [.d .bool] [] false),
    mv 5 8]) (ATp)) (ATo)
def Yw.fn:Fn:=⟨3,[.tmp 5],.seq (.reg false [bx 4 0 1,
    o_ 5 (.move (.c .bool false))]) (ATn)⟩
def AWw:Cd:=td [8]
def AW0:Cd:=.skip
def AP2:Cd:=.exit 0
def APv:Cd:=td [13,14,15]
def APx:Cd:=td [16,17]
def APz:Cd:=td [19,20,21,22]
def APy:Cd:=.seq (.reg false [mv 19 5,
    mv 20 6,
    o_ 21 (.slice 3 (.int .i64) [(.t 20)]),
    o_ 22 (.append 4 (.int .i64) (.t 19) (.t 21)),
    mv 5 22]) (APz)
def AP1:Cd:=.skip
def APw:Cd:=.cond (.t 18) (.seq (td [18]) (APy)) (.seq (td [18]) (AP1))
def APu:Cd:=.seq (.seq (.reg false [ld 16 Zb 3,
    ld 17 Zb 7,
    o_ 18 (.eqs Zb false (.t 16) (.t 17))]) (APx)) (APw)
def AP0:Cd:=td [23]
def APt:Cd:=.seq (.reg false [bc 23 .add 11 1,
    mv 11 23]) (AP0)
def AWz:Cd:=.seq (.block 1 (.seq (.seq (.reg false [mv 13 11,
    ix 14 (.sl Zb) 9 11,
    ld 15 Zb 14,
    nb 7 2 Zb,
    mv 6 13,
    sr Zb 7 15]) (APv)) (APu))) (APt)
def AWy:Cd:=.seq (.cond (.t 12) (.seq (td [12]) (AW0)) (.seq (td [12]) (AP2))) (AWz)
def AWx:Cd:=.tidy [6,7] [(4,5)] [2,3] (some 6)
def AKb:Cd:=.seq (.seq (.reg false [bi 12 .lss 11 10]) (AWy)) (AWx)
def AWv:Cd:=.block 0 (.loop (AKb))
def AP4:Cd:=td [24]
def AP3:Cd:=.ret
def AKa:Cd:=.seq (.seq (.reg false [mv 24 5,
    mv 4 24]) (AP4)) (AP3)
def AWu:Cd:=.seq (.seq (.seq (.reg false [fa 8 Za 3 2,
    ld 9 (.sl Zb) 8,
    le 10 9,
    ci 11 0]) (AWw)) (AWv)) (AKa)
def AWt:Cd:=.seq (.reg false [o_ 5 (.mknil 5 (.int .i64))]) (AWu)
def Yv.fn:Fn:=⟨2,[.tmp 4],.seq (.reg false [bx 2 0 0,
    bx 3 1 1,
    o_ 4 (.move (.c (.sl (.int .i64)) []))]) (AWt)⟩
def ASp:Cd:=td [6,7,8,9,10,11,12,13,14,15]
def ASr:Cd:=td [16,17,18,19,20,21,22,23,24]
def ASq:Cd:=.ret
def ASo:Cd:=.seq (.seq (.reg true [od 16 (.fieldAddr (.d Zb) 0 (.t 3)) [1] [],
    od 17 (.load (.d (.int .i64)) (.t 16)) [1] [],
    od 18 (.index (.arr 3 (.int .i64)) (.t 5) (.t 17)) [2] [],
    od 19 (.load (.d (.int .i64)) (.t 18)) [2] [],
    od 20 (.load (.d Za) (.t 2)) [0] [],
    od 21 (.load (.d Zb) (.t 3)) [1] [],
    o_ 22 (.call (.f 133) [(.t 20),(.t 21)] [.d (.sl (.int .i64))] [] false),
    le 23 22,
    bi 24 .sub 19 23,
    mv 4 24]) (ASr)) (ASq)
def ASn:Cd:=.seq (.seq (.reg false [fa 6 Za 0 2,
    fa 7 Zx 5 6,
    ld 8 (.int .i64) 7,
    fa 9 Za 0 2,
    fa 10 Zx 6 9,
    ld 11 (.int .i64) 10,
    fa 12 Za 0 2,
    fa 13 Zx 7 12,
    ld 14 (.int .i64) 13,
    o_ 15 (.build (.arr 3 (.int .i64)) [(0,(.t 8)),(1,(.t 11)),(2,(.t 14))] []),
    o_ 5 (.newbox 2 (.arr 3 (.int .i64)) []),
    on_ (.store (.d (.arr 3 (.int .i64))) (.t 5) (.t 15))]) (ASp)) (ASo)
def Q4.fn:Fn:=⟨2,[.tmp 4],.seq (.reg false [bx 2 0 0,
    bx 3 1 1,
    ci 4 0]) (ASn)⟩
def AW3:Cd:=td [3,4,5,6,7,8]
def AW2:Cd:=.ret
def AW1:Cd:=.seq (.seq (.reg false [mv 3 0,
    bc 4 .geq 3 0,
    mv 5 4,
    og 6 (.move (.t 0)) 5 true,
    og 7 (.bin .leq (.t 6) (.c (.int .i64) (1073741824:Int))) 5 true,
    o_ 8 (.pick (.t 5) (.t 7) (.c .bool false)),
    mv 2 8]) (AW3)) (AW2)
def H0.fn:Fn:=⟨1,[.tmp 2],.seq (.reg false [o_ 2 (.move (.c .bool false))]) (AW1)⟩
def AT7:Cd:=td [12,13,14,15,16,17]
def AUa:Cd:=td [18,19]
def AT9:Cd:=.ret
def AT8:Cd:=.seq (.seq (.reg false [mv 18 0,
    mv 19 1,
    mv 8 18,
    mv 9 19,
    ci 10 1]) (AUa)) (AT9)
def AUd:Cd:=td [21,22,23,24,25,26,27,28]
def AN5:Cd:=td [29,30]
def AN4:Cd:=.ret
def AN3:Cd:=.seq (.seq (.reg false [mv 29 0,
    mv 30 1,
    mv 8 29,
    mv 9 30,
    ci 10 10]) (AN5)) (AN4)
def AN8:Cd:=td [32,33,34,35,36,37,38,39,40,41,42,43,44,45,46,47]
def AOb:Cd:=td [48,49]
def AOa:Cd:=.ret
def AN9:Cd:=.seq (.seq (.reg false [mv 48 0,
    mv 49 1,
    mv 8 48,
    mv 9 49,
    ci 10 11]) (AOb)) (AOa)
def AOc:Cd:=.skip
def AN7:Cd:=.cond (.t 31) (.seq (td [31]) (AN9)) (.seq (td [31]) (AOc))
def AN6:Cd:=.seq (.seq (.reg false [mv 32 0,
    mv 33 2,
    bi 34 .sub 32 33,
    mv 35 3,
    bi 36 .add 34 35,
    o_ 37 (.call (.f 135) [(.t 36)] [.d .bool] [] false),
    nt 38 37,
    mv 39 38,
    og 40 (.move (.t 1)) 39 false,
    og 41 (.move (.t 3)) 39 false,
    og 42 (.bin .sub (.t 40) (.t 41)) 39 false,
    og 43 (.move (.t 2)) 39 false,
    og 44 (.bin .add (.t 42) (.t 43)) 39 false,
    og 45 (.call (.f 135) [(.t 44)] [.d .bool] [] false) 39 false,
    og 46 (.not (.t 45)) 39 false,
    o_ 47 (.pick (.t 39) (.c .bool true) (.t 46)),
    mv 31 47]) (AN8)) (AN7)
def AUc:Cd:=.cond (.t 20) (.seq (td [20]) (AN3)) (.seq (td [20]) (AN6))
def AUb:Cd:=.seq (.seq (.reg false [mv 21 2,
    mv 22 0,
    bi 23 .gtr 21 22,
    mv 24 23,
    og 25 (.move (.t 3)) 24 false,
    og 26 (.move (.t 1)) 24 false,
    og 27 (.bin .gtr (.t 25) (.t 26)) 24 false,
    o_ 28 (.pick (.t 24) (.c .bool true) (.t 27)),
    mv 20 28]) (AUd)) (AUc)
def AT6:Cd:=.cond (.t 11) (.seq (td [11]) (AT8)) (.seq (td [11]) (AUb))
def AOe:Cd:=td [50,51,52,53,54,55,56,57,58,59]
def AOd:Cd:=.ret
def AT5:Cd:=.seq (.seq (.reg false [mv 50 0,
    mv 51 2,
    bi 52 .sub 50 51,
    mv 53 3,
    bi 54 .add 52 53,
    mv 55 1,
    mv 56 3,
    bi 57 .sub 55 56,
    mv 58 2,
    bi 59 .add 57 58,
    mv 8 54,
    mv 9 59,
    ci 10 0]) (AOe)) (AOd)
def AT4:Cd:=.seq (.block 0 (.seq (.seq (.reg false [mv 12 2,
    bc 13 .lss 12 0,
    mv 14 13,
    og 15 (.move (.t 3)) 14 false,
    og 16 (.bin .lss (.t 15) (.c (.int .i64) (0:Int))) 14 false,
    o_ 17 (.pick (.t 14) (.c .bool true) (.t 16)),
    mv 11 17]) (AT7)) (AT6))) (AT5)
def V6.fn:Fn:=⟨4,[.tmp 8,.tmp 9,.tmp 10],.seq (.reg false [ci 8 0,
    ci 9 0,
    ci 10 0]) (AT4)⟩
def AUg:Cd:=td [3,4,5,6,7,8,9,10,11,12,13,14]
def AUi:Cd:=td [15]
def AUh:Cd:=.ret
def AUf:Cd:=.seq (.seq (.reg false [ld 15 Za 1,
    sr Za 2 15]) (AUi)) (AUh)
def AUe:Cd:=.seq (.seq (.reg true [od 3 (.fieldAddr (.d Za) 1 (.t 1)) [0] [],
    od 4 (.load (.d (.sl (.int .i64))) (.t 3)) [0] [],
    od 5 (.call (.f 136) [(.t 4)] [.d (.sl (.int .i64))] [((0,[]),2)] false) [] [2],
    od 6 (.fieldAddr (.d Za) 2 (.t 1)) [0] [],
    od 7 (.load (.d (.sl (.int .i64))) (.t 6)) [0] [],
    od 8 (.call (.f 136) [(.t 7)] [.d (.sl (.int .i64))] [((0,[]),3)] false) [] [3],
    od 9 (.fieldAddr (.d Za) 3 (.t 1)) [0] [],
    od 10 (.load (.d (.sl Zb)) (.t 9)) [0] [],
    od 11 (.call (.f 137) [(.t 10)] [.d (.sl Zb)] [((0,[]),4)] false) [] [4],
    od 12 (.fieldAddr (.d Za) 1 (.t 1)) [0] [],
    ⟨none,.store (.d (.sl (.int .i64))) (.t 12) (.t 5),none,[],[0]⟩,
    od 13 (.fieldAddr (.d Za) 2 (.t 1)) [0] [],
    ⟨none,.store (.d (.sl (.int .i64))) (.t 13) (.t 8),none,[],[0]⟩,
    od 14 (.fieldAddr (.d Za) 3 (.t 1)) [0] [],
    ⟨none,.store (.d (.sl Zb)) (.t 14) (.t 11),none,[],[0]⟩]) (AUg)) (AUf)
def Jd.fn:Fn:=⟨1,[.cell 2 (.d Za)],.seq (.reg false [bx 1 0 0,
    nb 2 1 Za]) (AUe)⟩
def BRy:Cd:=td [20,21,22,23,24,25,26,27]
def BR0:Cd:=td [28]
def BR3:Cd:=td [30,31,32,33,34,35,36,37,38]
def BFt:Cd:=td [39]
def BR5:Cd:=.ret
def BR4:Cd:=.seq (.seq (.reg false [ld 39 Za 3,
    sr Za 6 39,
    ci 7 3]) (BFt)) (BR5)
def BFw:Cd:=td [41,42,43]
def BFz:Cd:=td [44]
def BFy:Cd:=.ret
def BFx:Cd:=.seq (.seq (.reg false [ld 44 Za 3,
    sr Za 6 44,
    ci 7 12]) (BFz)) (BFy)
def BF2:Cd:=td [46,47,48,49,50,51,52,53,54,55,56]
def BF5:Cd:=td [57]
def BF4:Cd:=.ret
def BF3:Cd:=.seq (.seq (.reg false [ld 57 Za 3,
    sr Za 6 57,
    ci 7 5]) (BF5)) (BF4)
def BF8:Cd:=td [59,60]
def BGb:Cd:=td [61]
def BGa:Cd:=.ret
def BF9:Cd:=.seq (.seq (.reg false [ld 61 Za 3,
    sr Za 6 61,
    ci 7 13]) (BGb)) (BGa)
def BGe:Cd:=td [63,64,65,66,67,68,69,70,71,72,73,74]
def BGh:Cd:=td [75]
def BGg:Cd:=.ret
def BGf:Cd:=.seq (.seq (.reg false [ld 75 Za 3,
    sr Za 6 75,
    ci 7 5]) (BGh)) (BGg)
def BGi:Cd:=.skip
def BGd:Cd:=.cond (.t 62) (.seq (td [62]) (BGf)) (.seq (td [62]) (BGi))
def BGc:Cd:=.seq (.seq (.reg false [mv 63 10,
    fa 64 Z5 5 5,
    o_ 65 (.load (.d (.sl (.int .i64))) (.t 64)),
    mv 66 1,
    o_ 67 (.call (.t 63) [(.t 65),(.t 66)] [.d .bool] [] false),
    mv 68 67,
    og 69 (.move (.t 10)) 68 false,
    og 70 (.fieldAddr (.d Z5) 7 (.t 5)) 68 false,
    og 71 (.load (.d (.sl (.int .i64))) (.t 70)) 68 false,
    og 72 (.move (.t 8)) 68 false,
    og 73 (.call (.t 69) [(.t 71),(.t 72)] [.d .bool] [] false) 68 false,
    o_ 74 (.pick (.t 68) (.c .bool true) (.t 73)),
    mv 62 74]) (BGe)) (BGd)
def BF7:Cd:=.cond (.t 58) (.seq (td [58]) (BF9)) (.seq (td [58]) (BGc))
def BF6:Cd:=.seq (.seq (.reg false [mv 59 9,
    o_ 60 (.call (.f 120) [(.t 59)] [.d .bool] [] false),
    mv 58 60]) (BF8)) (BF7)
def BF1:Cd:=.cond (.t 45) (.seq (td [45]) (BF3)) (.seq (td [45]) (BF6))
def BF0:Cd:=.seq (.seq (.reg true [od 46 (.fieldAddr (.d Za) 1 (.t 3)) [0] [],
    od 47 (.load (.d (.sl (.int .i64))) (.t 46)) [0] [],
    mv 48 8,
    ix 49 (.sl (.int .i64)) 47 48,
    ld 50 (.int .i64) 49,
    od 51 (.fieldAddr (.d Za) 1 (.t 3)) [0] [],
    od 52 (.load (.d (.sl (.int .i64))) (.t 51)) [0] [],
    mv 53 1,
    ix 54 (.sl (.int .i64)) 52 53,
    ld 55 (.int .i64) 54,
    bi 56 .neq 50 55,
    mv 45 56]) (BF2)) (BF1)
def BFv:Cd:=.cond (.t 40) (.seq (td [40]) (BFx)) (.seq (td [40]) (BF0))
def BFu:Cd:=.seq (.seq (.reg false [mv 41 8,
    mv 42 1,
    bi 43 .eql 41 42,
    mv 40 43]) (BFw)) (BFv)
def BR2:Cd:=.cond (.t 29) (.seq (td [29]) (BR4)) (.seq (td [29]) (BFu))
def BGk:Cd:=td [76,77,78,79,80,81,82]
def BGn:Cd:=td [83,84,85,86,87,88,89,90,91,92,93,94,95,96]
def BGq:Cd:=td [98]
def BGp:Cd:=.ret
def BGo:Cd:=.seq (.seq (.reg false [ld 98 Za 3,
    sr Za 6 98,
    ci 7 9]) (BGq)) (BGp)
def BGr:Cd:=.skip
def BGm:Cd:=.cond (.t 97) (.seq (td [97]) (BGo)) (.seq (td [97]) (BGr))
def BGt:Cd:=td [99,100,101,102,103,104,105,106,107,108,109,110,111,112,113,114,115,116,117]
def BGw:Cd:=td [118]
def BGz:Cd:=td [120,121]
def BGy:Cd:=.ret
def BGx:Cd:=.seq (.seq (.reg false [ld 120 Za 3,
    mv 121 14,
    sr Za 6 120,
    mv 7 121]) (BGz)) (BGy)
def BG0:Cd:=.skip
def BGv:Cd:=.cond (.t 119) (.seq (td [119]) (BGx)) (.seq (td [119]) (BG0))
def BG2:Cd:=td [122,123]
def BG4:Cd:=td [124,125,126,127,128,129,130,131,132,133]
def BG6:Cd:=td [134]
def BHa:Cd:=.skip
def BHg:Cd:=.exit 1
def BHd:Cd:=td [139,140]
def BHe:Cd:=td [141,142,143,144,145,146]
def BHc:Cd:=.seq (.reg true [od 141 (.fieldAddr (.d Za) 3 (.t 15)) [4] [],
    od 142 (.load (.d (.sl Zb)) (.t 141)) [4] [],
    mv 143 17,
    mv 144 8,
    o_ 145 (.call (.f 115) [(.t 144)] [.d Zb] [] false),
    od 146 (.index (.sl Zb) (.t 142) (.t 143)) [6] [],
    ⟨none,.store (.d Zb) (.t 146) (.t 145),none,[],[6]⟩]) (BHe)
def BHf:Cd:=td [147]
def BHb:Cd:=.seq (.reg false [bc 147 .add 137 1,
    mv 137 147]) (BHf)
def BG9:Cd:=.seq (.block 2 (.seq (.seq (.reg false [ix 139 (.sl (.int .i64)) 135 137,
    ld 140 (.int .i64) 139,
    mv 17 140]) (BHd)) (BHc))) (BHb)
def BG8:Cd:=.seq (.cond (.t 138) (.seq (td [138]) (BHa)) (.seq (td [138]) (BHg))) (BG9)
def BG7:Cd:=.tidy [17] [] [] (some 7)
def AKu:Cd:=.seq (.seq (.reg false [bi 138 .lss 137 136]) (BG8)) (BG7)
def BG5:Cd:=.block 1 (.loop (AKu))
def BHi:Cd:=td [148]
def BHm:Cd:=.skip
def BHs:Cd:=.exit 3
def BHp:Cd:=td [153,154]
def BHq:Cd:=td [155,156,157,158,159,160]
def BHo:Cd:=.seq (.reg true [od 155 (.fieldAddr (.d Za) 3 (.t 15)) [4] [],
    od 156 (.load (.d (.sl Zb)) (.t 155)) [4] [],
    mv 157 19,
    mv 158 1,
    o_ 159 (.call (.f 115) [(.t 158)] [.d Zb] [] false),
    od 160 (.index (.sl Zb) (.t 156) (.t 157)) [6] [],
    ⟨none,.store (.d Zb) (.t 160) (.t 159),none,[],[6]⟩]) (BHq)
def BHr:Cd:=td [161]
def BHn:Cd:=.seq (.reg false [bc 161 .add 151 1,
    mv 151 161]) (BHr)
def BHl:Cd:=.seq (.block 4 (.seq (.seq (.reg false [ix 153 (.sl (.int .i64)) 149 151,
    ld 154 (.int .i64) 153,
    mv 19 154]) (BHp)) (BHo))) (BHn)
def BHk:Cd:=.seq (.cond (.t 152) (.seq (td [152]) (BHm)) (.seq (td [152]) (BHs))) (BHl)
def BHj:Cd:=.tidy [19] [] [] (some 7)
def AKw:Cd:=.seq (.seq (.reg false [bi 152 .lss 151 150]) (BHk)) (BHj)
def BHh:Cd:=.block 3 (.loop (AKw))
def BHu:Cd:=td [162]
def BHt:Cd:=.ret
def AKv:Cd:=.seq (.seq (.reg false [ld 162 Za 15,
    sr Za 6 162,
    ci 7 0]) (BHu)) (BHt)
def AKt:Cd:=.seq (.seq (.seq (.reg false [fa 148 Z5 7 5,
    o_ 149 (.load (.d (.sl (.int .i64))) (.t 148)),
    le 150 149,
    ci 151 0]) (BHi)) (BHh)) (AKv)
def BG3:Cd:=.seq (.seq (.seq (.reg false [fa 134 Z5 5 5,
    o_ 135 (.load (.d (.sl (.int .i64))) (.t 134)),
    le 136 135,
    ci 137 0]) (BG6)) (BG5)) (AKt)
def BG1:Cd:=.seq (.seq (.reg true [od 124 (.fieldAddr (.d Za) 2 (.t 15)) [4] [],
    od 125 (.load (.d (.sl (.int .i64))) (.t 124)) [4] [],
    mv 126 1,
    od 127 (.fieldAddr (.d Za) 2 (.t 15)) [4] [],
    od 128 (.load (.d (.sl (.int .i64))) (.t 127)) [4] [],
    mv 129 8,
    mv 130 12,
    mv 131 13,
    od 132 (.index (.sl (.int .i64)) (.t 125) (.t 126)) [5] [],
    ⟨none,.store (.d (.int .i64)) (.t 132) (.t 130),none,[],[5]⟩,
    od 133 (.index (.sl (.int .i64)) (.t 128) (.t 129)) [5] [],
    ⟨none,.store (.d (.int .i64)) (.t 133) (.t 131),none,[],[5]⟩]) (BG4)) (BG3)
def BGu:Cd:=.seq (.seq (.reg false [ld 122 Za 3,
    o_ 123 (.call (.f 122) [(.t 122)] [.d Za] [((0,[2]),5),((0,[3]),6)] false),
    nb 15 4 Za,
    sr Za 15 123]) (BG2)) (BG1)
def BGs:Cd:=.seq (.seq (.seq (.reg false [mv 118 14,
    bc 119 .neq 118 0]) (BGw)) (BGv)) (BGu)
def BGl:Cd:=.seq (.seq (.reg true [od 100 (.fieldAddr (.d Za) 2 (.t 3)) [0] [],
    od 101 (.load (.d (.sl (.int .i64))) (.t 100)) [0] [],
    mv 102 1,
    ix 103 (.sl (.int .i64)) 101 102,
    ld 104 (.int .i64) 103,
    od 105 (.fieldAddr (.d Za) 2 (.t 3)) [0] [],
    od 106 (.load (.d (.sl (.int .i64))) (.t 105)) [0] [],
    mv 107 8,
    ix 108 (.sl (.int .i64)) 106 107,
    ld 109 (.int .i64) 108,
    od 110 (.fieldAddr (.d Z5) 6 (.t 5)) [1] [],
    od 111 (.load (.d (.int .i64)) (.t 110)) [1] [],
    od 112 (.fieldAddr (.d Z5) 8 (.t 5)) [1] [],
    od 113 (.load (.d (.int .i64)) (.t 112)) [1] [],
    o_ 114 (.call (.f 121) [(.t 104),(.t 109),(.t 111),(.t 113)] [.d (.int .i64),.d (.int .i64),.d (.int .i64)] [] false),
    mv 99 114,
    xt 115 99 0,
    xt 116 99 1,
    xt 117 99 2,
    mv 12 115,
    mv 13 116,
    mv 14 117]) (BGt)) (BGs)
def BGj:Cd:=.seq (.seq (.seq (.reg true [od 83 (.load (.d Za) (.t 3)) [0] [],
    mv 84 1,
    o_ 85 (.call (.f 115) [(.t 84)] [.d Zb] [] false),
    o_ 86 (.call (.f 106) [(.t 83),(.t 85)] [.d (.int .i64)] [] false),
    mv 87 11,
    bi 88 .lss 86 87,
    mv 89 88,
    ogd 90 (.load (.d Za) (.t 3)) 89 false [0],
    og 91 (.move (.t 8)) 89 false,
    og 92 (.call (.f 115) [(.t 91)] [.d Zb] [] false) 89 false,
    og 93 (.call (.f 106) [(.t 90),(.t 92)] [.d (.int .i64)] [] false) 89 false,
    og 94 (.move (.t 11)) 89 false,
    og 95 (.neg (.t 94)) 89 false,
    og 96 (.bin .lss (.t 93) (.t 95)) 89 false,
    o_ 97 (.pick (.t 89) (.c .bool true) (.t 96))]) (BGn)) (BGm)) (BGl)
def BR1:Cd:=.seq (.seq (.reg false [fa 76 Z5 7 5,
    o_ 77 (.load (.d (.sl (.int .i64))) (.t 76)),
    le 78 77,
    fa 79 Z5 5 5,
    o_ 80 (.load (.d (.sl (.int .i64))) (.t 79)),
    le 81 80,
    bi 82 .sub 78 81,
    mv 11 82]) (BGk)) (BGj)
def BRz:Cd:=.seq (.block 0 (.seq (.seq (.reg false [ld 30 Za 3,
    mv 31 8,
    o_ 32 (.call (.f 114) [(.t 30),(.t 31)] [.d .bool] [] false),
    nt 33 32,
    mv 34 33,
    og 35 (.move (.t 9)) 34 false,
    og 36 (.func 119 [(.t 3)]) 34 false,
    og 37 (.call (.f 84) [(.t 35),(.t 36)] [.d .bool] [] false) 34 false,
    o_ 38 (.pick (.t 34) (.c .bool true) (.t 37)),
    mv 29 38]) (BR3)) (BR2))) (BR1)
def BRx:Cd:=.seq (.seq (.reg false [o_ 28 (.func 117 [(.t 3)]),
    mv 10 28]) (BR0)) (BRz)
def BRw:Cd:=.seq (.seq (.reg true [od 20 (.fieldAddr (.d Z5) 4 (.t 5)) [1] [],
    od 21 (.load (.d (.int .i64)) (.t 20)) [1] [],
    od 22 (.fieldAddr (.d Z5) 5 (.t 5)) [1] [],
    od 23 (.load (.d (.sl (.int .i64))) (.t 22)) [1] [],
    od 24 (.fieldAddr (.d Z5) 7 (.t 5)) [1] [],
    od 25 (.load (.d (.sl (.int .i64))) (.t 24)) [1] [],
    od 26 (.slice 3 (.sl (.int .i64)) [(.t 23),(.t 25)]) [] [3],
    od 27 (.call (.f 116) [(.t 26)] [.d (.sl (.int .i64))] [] false) [] [3],
    mv 8 21,
    mv 9 27]) (BRy)) (BRx)
def Z6.fn:Fn:=⟨3,[.cell 6 (.d Za),.tmp 7],.seq (.reg false [bx 3 0 0,
    bx 5 1 2,
    nb 6 2 Za,
    ci 7 0]) (BRw)⟩
def BTr:Cd:=td [7]
def BTu:Cd:=td [9,10]
def BTt:Cd:=.ret
def BTs:Cd:=.seq (.seq (.reg false [mv 9 2,
    o_ 10 (.build Zm [(0,(.t 9))] []),
    sr Zm 6 10]) (BTu)) (BTt)
def BTv:Cd:=.skip
def BTq:Cd:=.cond (.t 8) (.seq (td [8]) (BTs)) (.seq (td [8]) (BTv))
def BTx:Cd:=td [11,12,13]
def BTw:Cd:=.ret
def BTp:Cd:=.seq (.seq (.reg false [mv 11 0,
    mv 12 1,
    o_ 13 (.build Zm [(1,(.t 11)),(2,(.t 12))] []),
    sr Zm 6 13]) (BTx)) (BTw)
def BTo:Cd:=.seq (.seq (.seq (.reg false [mv 7 2,
    bc 8 .neq 7 0]) (BTr)) (BTq)) (BTp)
def Yg.fn:Fn:=⟨3,[.cell 6 (.d Zm)],.seq (.reg false [nb 6 0 Zm]) (BTo)⟩
def BUf:Cd:=td [11,12,13,14,15,16,17,18]
def BUh:Cd:=td [19,20,21,22,23]
def BUg:Cd:=.ret
def BUe:Cd:=.seq (.seq (.reg true [od 19 (.load (.d Za) (.t 9)) [4] [],
    od 20 (.fieldAddr (.d Z5) 0 (.t 6)) [1] [],
    od 21 (.load (.d (.int .i64)) (.t 20)) [1] [],
    mv 22 10,
    o_ 23 (.call (.f 87) [(.t 21),(.c (.int .i64) (0:Int)),(.t 22)] [.d Zm] [] false),
    ⟨none,.store (.d Za) (.t 7) (.t 19),none,[],[2]⟩,
    ⟨none,.store (.d Zm) (.t 8) (.t 23),none,[],[3]⟩]) (BUh)) (BUg)
def BUd:Cd:=.seq (.seq (.reg false [o_ 12 (.load (.v false 1) (.t 3)),
    ld 13 Za 4,
    mv 14 1,
    ld 15 Z5 6,
    o_ 16 (.call (.t 12) [(.t 13),(.t 14),(.t 15)] [.d Za,.d (.int .i64)] [] false),
    mv 11 16,
    xt 17 11 0,
    xt 18 11 1,
    nb 9 4 Za,
    sr Za 9 17,
    mv 10 18]) (BUf)) (BUe)
def Qp.fn:Fn:=⟨4,[.cell 7 (.d Za),.cell 8 (.d Zm)],.seq (.reg false [bx 4 0 0,
    bx 6 1 2,
    nb 7 2 Za,
    nb 8 3 Zm]) (BUd)⟩
def ASu:Cd:=td [8,9]
def ASw:Cd:=td [10,11,12,13,14]
def ASy:Cd:=td [15]
def ASx:Cd:=.ret
def ASv:Cd:=.seq (.seq (.reg false [ld 15 Za 7,
    sr Za 6 15]) (ASy)) (ASx)
def ASt:Cd:=.seq (.seq (.reg false [fa 10 Za 3 7,
    ld 11 (.sl Zb) 10,
    mv 12 1,
    ld 13 Zb 5,
    ix 14 (.sl Zb) 11 12,
    sr Zb 14 13]) (ASw)) (ASv)
def ASs:Cd:=.seq (.seq (.reg false [ld 8 Za 3,
    o_ 9 (.call (.f 122) [(.t 8)] [.d Za] [((0,[3]),4)] false),
    nb 7 3 Za,
    sr Za 7 9]) (ASu)) (ASt)
def K2.fn:Fn:=⟨3,[.cell 6 (.d Za)],.seq (.reg false [bx 3 0 0,
    bx 5 1 2,
    nb 6 2 Za]) (ASs)⟩
def BRp:Cd:=td [11,12,13,14,15,16,17,18,19,20]
def BRs:Cd:=td [21]
def BRr:Cd:=.ret
def BRq:Cd:=.seq (.seq (.reg false [ld 21 Za 4,
    sr Za 8 21,
    ci 9 3]) (BRs)) (BRr)
def BRv:Cd:=td [23,24,25]
def BFd:Cd:=td [26]
def BFc:Cd:=.ret
def BFb:Cd:=.seq (.seq (.reg false [ld 26 Za 4,
    sr Za 8 26,
    ci 9 12]) (BFd)) (BFc)
def BFg:Cd:=td [28,29,30,31,32,33,34,35,36,37,38,39,40,41,42,43,44,45,46,47,48]
def BFj:Cd:=td [49]
def BFi:Cd:=.ret
def BFh:Cd:=.seq (.seq (.reg false [ld 49 Za 4,
    sr Za 8 49,
    ci 9 5]) (BFj)) (BFi)
def BFm:Cd:=td [51,52,53,54,55]
def BFp:Cd:=td [56]
def BFo:Cd:=.ret
def BFn:Cd:=.seq (.seq (.reg false [ld 56 Za 4,
    sr Za 8 56,
    ci 9 9]) (BFp)) (BFo)
def BFq:Cd:=.skip
def BFl:Cd:=.cond (.t 50) (.seq (td [50]) (BFn)) (.seq (td [50]) (BFq))
def BFk:Cd:=.seq (.seq (.reg true [od 51 (.load (.d Za) (.t 4)) [0] [],
    mv 52 3,
    o_ 53 (.call (.f 115) [(.t 52)] [.d Zb] [] false),
    o_ 54 (.call (.f 106) [(.t 51),(.t 53)] [.d (.int .i64)] [] false),
    bc 55 .lss 54 1,
    mv 50 55]) (BFm)) (BFl)
def BFf:Cd:=.cond (.t 27) (.seq (td [27]) (BFh)) (.seq (td [27]) (BFk))
def BFe:Cd:=.seq (.seq (.reg true [od 28 (.fieldAddr (.d Za) 1 (.t 4)) [0] [],
    od 29 (.load (.d (.sl (.int .i64))) (.t 28)) [0] [],
    mv 30 3,
    ix 31 (.sl (.int .i64)) 29 30,
    ld 32 (.int .i64) 31,
    od 33 (.fieldAddr (.d Za) 1 (.t 4)) [0] [],
    od 34 (.load (.d (.sl (.int .i64))) (.t 33)) [0] [],
    mv 35 1,
    ix 36 (.sl (.int .i64)) 34 35,
    ld 37 (.int .i64) 36,
    bi 38 .neq 32 37,
    mv 39 38,
    ogd 40 (.fieldAddr (.d Za) 3 (.t 4)) 39 false [0],
    ogd 41 (.load (.d (.sl Zb)) (.t 40)) 39 false [0],
    og 42 (.move (.t 2)) 39 false,
    og 43 (.index (.sl Zb) (.t 41) (.t 42)) 39 false,
    og 44 (.load (.d Zb) (.t 43)) 39 false,
    og 45 (.move (.t 1)) 39 false,
    og 46 (.call (.f 115) [(.t 45)] [.d Zb] [] false) 39 false,
    og 47 (.eqs Zb true (.t 44) (.t 46)) 39 false,
    o_ 48 (.pick (.t 39) (.c .bool true) (.t 47)),
    mv 27 48]) (BFg)) (BFf)
def BRu:Cd:=.cond (.t 22) (.seq (td [22]) (BFb)) (.seq (td [22]) (BFe))
def BRt:Cd:=.seq (.seq (.reg false [mv 23 3,
    mv 24 1,
    bi 25 .eql 23 24,
    mv 22 25]) (BRv)) (BRu)
def BRo:Cd:=.cond (.t 10) (.seq (td [10]) (BRq)) (.seq (td [10]) (BRt))
def BFs:Cd:=td [57,58,59,60,61]
def BFr:Cd:=.ret
def BRn:Cd:=.seq (.seq (.reg true [od 57 (.load (.d Za) (.t 4)) [0] [],
    mv 58 2,
    mv 59 3,
    o_ 60 (.call (.f 115) [(.t 59)] [.d Zb] [] false),
    o_ 61 (.call (.f 107) [(.t 57),(.t 58),(.t 60)] [.d Za] [] false),
    ⟨none,.store (.d Za) (.t 8) (.t 61),none,[],[1]⟩,
    ci 9 0]) (BFs)) (BFr)
def BRm:Cd:=.seq (.block 0 (.seq (.seq (.reg false [ld 11 Za 4,
    mv 12 2,
    o_ 13 (.call (.f 113) [(.t 11),(.t 12)] [.d .bool] [] false),
    nt 14 13,
    mv 15 14,
    og 16 (.load (.d Za) (.t 4)) 15 false,
    og 17 (.move (.t 3)) 15 false,
    og 18 (.call (.f 114) [(.t 16),(.t 17)] [.d .bool] [] false) 15 false,
    og 19 (.not (.t 18)) 15 false,
    o_ 20 (.pick (.t 15) (.c .bool true) (.t 19)),
    mv 10 20]) (BRp)) (BRo))) (BRn)
def Vh.fn:Fn:=⟨4,[.cell 8 (.d Za),.tmp 9],.seq (.reg false [bx 4 0 0,
    nb 8 1 Za,
    ci 9 0]) (BRm)⟩
def BRl:Cd:=td [8,9,10,11,12,13,14,15,16]
def BRk:Cd:=.ret
def BRj:Cd:=.seq (.seq (.reg false [ld 8 Za 3,
    mv 9 1,
    fa 10 Z5 2 5,
    ld 11 (.int .i64) 10,
    fa 12 Z5 4 5,
    ld 13 (.int .i64) 12,
    o_ 14 (.call (.f 66) [(.t 8),(.t 9),(.t 11),(.t 13)] [.d Za,.d (.int .i64)] [] false),
    xt 15 14 0,
    xt 16 14 1,
    sr Za 6 15,
    mv 7 16]) (BRl)) (BRk)
def Qn.fn:Fn:=⟨3,[.cell 6 (.d Za),.tmp 7],.seq (.reg false [bx 3 0 0,
    bx 5 1 2,
    nb 6 2 Za,
    ci 7 0]) (BRj)⟩
def BVa:Cd:=td [5,6,7,8,9,10,11,12,13]
def BU9:Cd:=.ret
def BU8:Cd:=.seq (.seq (.reg false [mv 5 1,
    bc 6 .lss 5 0,
    mv 7 6,
    og 8 (.move (.t 1)) 7 false,
    og 9 (.fieldAddr (.d Za) 3 (.t 2)) 7 false,
    og 10 (.load (.d (.sl Zb)) (.t 9)) 7 false,
    og 11 (.len (.t 10)) 7 false,
    og 12 (.bin .geq (.t 8) (.t 11)) 7 false,
    o_ 13 (.pick (.t 7) (.c .bool true) (.t 12)),
    mv 4 13]) (BVa)) (BU9)
def Qy.fn:Fn:=⟨2,[.tmp 4],.seq (.reg false [bx 2 0 0,
    o_ 4 (.move (.c .bool false))]) (BU8)⟩
def AS1:Cd:=td [4,5,6,7,8,9,10,11]
def AS0:Cd:=.ret
def ASz:Cd:=.seq (.seq (.reg false [ld 4 Za 0,
    ld 5 (.int .i64) 1,
    o_ 6 (.call (.f 96) [(.t 4),(.t 5)] [.d .bool] [] false),
    mv 7 6,
    og 8 (.load (.d Za) (.t 0)) 7 false,
    og 9 (.load (.d (.int .i64)) (.t 2)) 7 false,
    og 10 (.call (.f 96) [(.t 8),(.t 9)] [.d .bool] [] false) 7 false,
    o_ 11 (.pick (.t 7) (.c .bool true) (.t 10)),
    mv 3 11]) (AS1)) (AS0)
def Yk.fn:Fn:=⟨3,[.tmp 3],.seq (.reg false [o_ 3 (.move (.c .bool false))]) (ASz)⟩
def BVg:Cd:=td [8,9,10]
def BVi:Cd:=td [11,12,13,14,15,16,17,18,19,20,21,22,23,24]
def BVh:Cd:=.ret
def BVf:Cd:=.seq (.seq (.reg true [od 11 (.load (.d Zb) (.t 7)) [1] [],
    od 12 (.fieldAddr (.d Za) 1 (.t 3)) [0] [],
    od 13 (.load (.d (.sl (.int .i64))) (.t 12)) [0] [],
    mv 14 1,
    ix 15 (.sl (.int .i64)) 13 14,
    ld 16 (.int .i64) 15,
    o_ 17 (.build Zb [(0,(.c (.int .i64) (0:Int))),(1,(.t 16))] []),
    o_ 18 (.eqs Zb false (.t 11) (.t 17)),
    mv 19 18,
    ogd 20 (.load (.d Zb) (.t 7)) 19 false [1],
    og 21 (.move (.t 1)) 19 false,
    og 22 (.build Zb [(0,(.c (.int .i64) (1:Int))),(1,(.t 21))] []) 19 false,
    og 23 (.eqs Zb false (.t 20) (.t 22)) 19 false,
    o_ 24 (.pick (.t 19) (.c .bool true) (.t 23)),
    mv 6 24]) (BVi)) (BVh)
def BVe:Cd:=.seq (.seq (.reg false [ld 8 Za 3,
    mv 9 2,
    o_ 10 (.call (.f 130) [(.t 8),(.t 9)] [.d Zb] [] false),
    nb 7 1 Zb,
    sr Zb 7 10]) (BVg)) (BVf)
def Jt.fn:Fn:=⟨3,[.tmp 6],.seq (.reg false [bx 3 0 0,
    o_ 6 (.move (.c .bool false))]) (BVe)⟩
def AS4:Cd:=td [4,5,6,7,8]
def AS3:Cd:=.ret
def AS2:Cd:=.seq (.seq (.reg false [ld 4 Za 0,
    ld 5 (.int .i64) 1,
    ld 6 (.int .i64) 2,
    o_ 7 (.call (.f 98) [(.t 4),(.t 5),(.t 6)] [.d .bool] [] false),
    nt 8 7,
    mv 3 8]) (AS4)) (AS3)
def Qq.fn:Fn:=⟨3,[.tmp 3],.seq (.reg false [o_ 3 (.move (.c .bool false))]) (AS2)⟩
def AS7:Cd:=td [3,4,5,6,7,8,9]
def AS6:Cd:=.ret
def AS5:Cd:=.seq (.seq (.reg false [fa 3 Za 0 0,
    fa 4 Zx 4 3,
    ld 5 (.sl .bool) 4,
    ld 6 (.int .i64) 1,
    ix 7 (.sl .bool) 5 6,
    ld 8 .bool 7,
    nt 9 8,
    mv 2 9]) (AS7)) (AS6)
def Qr.fn:Fn:=⟨2,[.tmp 2],.seq (.reg false [o_ 2 (.move (.c .bool false))]) (AS5)⟩
def ATa:Cd:=td [4,5,6,7,8,9,10]
def AS9:Cd:=.ret
def AS8:Cd:=.seq (.seq (.reg true [fa 4 Za 3 0,
    ld 5 (.sl Zb) 4,
    ld 6 (.int .i64) 1,
    ix 7 (.sl Zb) 5 6,
    ld 8 Zb 7,
    ld 9 Zb 2,
    o_ 10 (.eqs Zb true (.t 8) (.t 9)),
    mv 3 10]) (ATa)) (AS9)
def Qs.fn:Fn:=⟨3,[.tmp 3],.seq (.reg false [o_ 3 (.move (.c .bool false))]) (AS8)⟩
def ATd:Cd:=td [3,4,5,6]
def ATc:Cd:=.ret
def ATb:Cd:=.seq (.seq (.reg false [ld 3 Za 0,
    ld 4 Zb 1,
    o_ 5 (.call (.f 106) [(.t 3),(.t 4)] [.d (.int .i64)] [] false),
    bc 6 .lss 5 1,
    mv 2 6]) (ATd)) (ATc)
def Qt.fn:Fn:=⟨2,[.tmp 2],.seq (.reg false [o_ 2 (.move (.c .bool false))]) (ATb)⟩
def BU2:Cd:=.skip
def BI2:Cd:=.exit 0
def BIu:Cd:=td [9,10]
def BIw:Cd:=td [11,12]
def BIz:Cd:=td [14,15]
def BIy:Cd:=.ret
def BIx:Cd:=.seq (.seq (.reg false [o_ 14 (.fieldAddr (.v [1,1]) 1 (.t 4)),
    ld 15 (.int .i64) 14,
    mv 2 15]) (BIz)) (BIy)
def BI0:Cd:=.skip
def BIv:Cd:=.cond (.t 13) (.seq (td [13]) (BIx)) (.seq (td [13]) (BI0))
def BU4:Cd:=.seq (.seq (.reg false [o_ 11 (.fieldAddr (.v [1,1]) 0 (.t 4)),
    o_ 12 (.load (.v false 1) (.t 11)),
    o_ 13 (.call (.t 12) [] [.d .bool] [] false)]) (BIw)) (BIv)
def BI1:Cd:=td [16]
def BU3:Cd:=.seq (.reg false [bc 16 .add 7 1,
    mv 7 16]) (BI1)
def BU1:Cd:=.seq (.block 1 (.seq (.seq (.reg false [o_ 9 (.index (.slv 2) (.t 5) (.t 7)),
    o_ 10 (.load (.v true 2) (.t 9)),
    o_ 4 (.newboxv 0 (.agv [.nilfn,.dat (.int .i64) 0 []])),
    on_ (.store (.v true 2) (.t 4) (.t 10))]) (BIu)) (BU4))) (BU3)
def BU0:Cd:=.seq (.cond (.t 8) (.seq (td [8]) (BU2)) (.seq (td [8]) (BI2))) (BU1)
def BUz:Cd:=.tidy [4] [] [] (some 0)
def BUy:Cd:=.seq (.seq (.reg false [bi 8 .lss 7 6]) (BU0)) (BUz)
def BUx:Cd:=.block 0 (.loop (BUy))
def BI3:Cd:=.ret
def BUw:Cd:=.seq (.reg false [ci 2 0]) (BI3)
def BUv:Cd:=.seq (.seq (.reg false [mv 5 0,
    le 6 5,
    ci 7 0]) (BUx)) (BUw)
def Y1.fn:Fn:=⟨1,[.tmp 2],.seq (.reg false [ci 2 0]) (BUv)⟩
def BRb:Cd:=td [13,14,15,16]
def BRd:Cd:=td [17,18,19,20,21,22,23,24,25,26,27,28]
def BRg:Cd:=td [29]
def BE7:Cd:=td [31,32]
def BRi:Cd:=.ret
def BRh:Cd:=.seq (.seq (.reg false [ld 31 Za 4,
    mv 32 12,
    sr Za 8 31,
    mv 9 32]) (BE7)) (BRi)
def BE8:Cd:=.skip
def BRf:Cd:=.cond (.t 30) (.seq (td [30]) (BRh)) (.seq (td [30]) (BE8))
def BFa:Cd:=td [33,34,35,36]
def BE9:Cd:=.ret
def BRe:Cd:=.seq (.seq (.reg false [ld 33 Za 4,
    ld 34 (.int .i64) 6,
    ld 35 Zb 10,
    o_ 36 (.call (.f 107) [(.t 33),(.t 34),(.t 35)] [.d Za] [] false),
    sr Za 8 36,
    ci 9 0]) (BFa)) (BE9)
def BRc:Cd:=.seq (.seq (.seq (.reg false [mv 29 12,
    bc 30 .neq 29 0]) (BRg)) (BRf)) (BRe)
def BRa:Cd:=.seq (.seq (.reg false [o_ 17 (.func 108 [(.t 4),(.t 6),(.t 7)]),
    o_ 18 (.buildv [1,1] [(.t 17),(.c (.int .i64) (3:Int))]),
    o_ 19 (.func 109 [(.t 4),(.t 5),(.t 7)]),
    o_ 20 (.buildv [1,1] [(.t 19),(.c (.int .i64) (5:Int))]),
    o_ 21 (.func 110 [(.t 4),(.t 7)]),
    o_ 22 (.buildv [1,1] [(.t 21),(.c (.int .i64) (6:Int))]),
    o_ 23 (.func 111 [(.t 4),(.t 6),(.t 11)]),
    o_ 24 (.buildv [1,1] [(.t 23),(.c (.int .i64) (5:Int))]),
    o_ 25 (.func 112 [(.t 4),(.t 10)]),
    o_ 26 (.buildv [1,1] [(.t 25),(.c (.int .i64) (9:Int))]),
    o_ 27 (.slicev 2 [(.t 18),(.t 20),(.t 22),(.t 24),(.t 26)]),
    o_ 28 (.call (.f 94) [(.t 27)] [.d (.int .i64)] [] false),
    mv 12 28]) (BRd)) (BRc)
def BQ9:Cd:=.seq (.seq (.reg true [od 13 (.load (.d (.int .i64)) (.t 5)) [1] [],
    o_ 14 (.build Zb [(0,(.c (.int .i64) (1:Int))),(1,(.t 13))] []),
    od 15 (.load (.d (.int .i64)) (.t 7)) [3] [],
    o_ 16 (.build Zb [(0,(.c (.int .i64) (2:Int))),(1,(.t 15))] []),
    od 10 (.newbox 5 Zb []) [] [5],
    od 11 (.newbox 6 Zb []) [] [6],
    ⟨none,.store (.d Zb) (.t 10) (.t 14),none,[],[5]⟩,
    ⟨none,.store (.d Zb) (.t 11) (.t 16),none,[],[6]⟩]) (BRb)) (BRa)
def Vg.fn:Fn:=⟨4,[.cell 8 (.d Za),.tmp 9],.seq (.reg false [bx 4 0 0,
    bx 5 1 1,
    bx 6 2 2,
    bx 7 3 3,
    nb 8 4 Za,
    ci 9 0]) (BQ9)⟩
def BQ8:Cd:=td [8,9,10,11,12,13,14,15,16]
def BQ7:Cd:=.ret
def BQ6:Cd:=.seq (.seq (.reg false [ld 8 Za 3,
    mv 9 1,
    fa 10 Z5 2 5,
    ld 11 (.int .i64) 10,
    fa 12 Z5 3 5,
    ld 13 (.int .i64) 12,
    o_ 14 (.call (.f 64) [(.t 8),(.t 9),(.t 11),(.t 13)] [.d Za,.d (.int .i64)] [] false),
    xt 15 14 0,
    xt 16 14 1,
    sr Za 6 15,
    mv 7 16]) (BQ8)) (BQ7)
def Qm.fn:Fn:=⟨3,[.cell 6 (.d Za),.tmp 7],.seq (.reg false [bx 3 0 0,
    bx 5 1 2,
    nb 6 2 Za,
    ci 7 0]) (BQ6)⟩
def BU7:Cd:=td [4,5,6,7,8,9,10,11]
def BU6:Cd:=.ret
def BU5:Cd:=.seq (.seq (.reg false [ld 4 Za 0,
    ld 5 (.int .i64) 1,
    o_ 6 (.call (.f 96) [(.t 4),(.t 5)] [.d .bool] [] false),
    mv 7 6,
    og 8 (.load (.d Za) (.t 0)) 7 false,
    og 9 (.load (.d (.int .i64)) (.t 2)) 7 false,
    og 10 (.call (.f 96) [(.t 8),(.t 9)] [.d .bool] [] false) 7 false,
    o_ 11 (.pick (.t 7) (.c .bool true) (.t 10)),
    mv 3 11]) (BU7)) (BU6)
def Yy.fn:Fn:=⟨3,[.tmp 3],.seq (.reg false [o_ 3 (.move (.c .bool false))]) (BU5)⟩
def BVd:Cd:=td [6,7,8,9,10,11,12,13,14,15,16,17,18,19]
def BVc:Cd:=.ret
def BVb:Cd:=.seq (.seq (.reg true [fa 6 Za 3 0,
    ld 7 (.sl Zb) 6,
    ld 8 (.int .i64) 1,
    ix 9 (.sl Zb) 7 8,
    ld 10 Zb 9,
    ld 11 Zb 2,
    o_ 12 (.eqs Zb true (.t 10) (.t 11)),
    mv 13 12,
    og 14 (.load (.d Za) (.t 0)) 13 false,
    og 15 (.load (.d (.int .i64)) (.t 3)) 13 false,
    og 16 (.load (.d (.int .i64)) (.t 4)) 13 false,
    og 17 (.call (.f 98) [(.t 14),(.t 15),(.t 16)] [.d .bool] [] false) 13 false,
    og 18 (.not (.t 17)) 13 false,
    o_ 19 (.pick (.t 13) (.c .bool true) (.t 18)),
    mv 5 19]) (BVd)) (BVc)
def Je.fn:Fn:=⟨5,[.tmp 5],.seq (.reg false [o_ 5 (.move (.c .bool false))]) (BVb)⟩
def BVl:Cd:=td [3,4,5,6,7,8,9]
def BVk:Cd:=.ret
def BVj:Cd:=.seq (.seq (.reg false [fa 3 Za 0 0,
    fa 4 Zx 4 3,
    ld 5 (.sl .bool) 4,
    ld 6 (.int .i64) 1,
    ix 7 (.sl .bool) 5 6,
    ld 8 .bool 7,
    nt 9 8,
    mv 2 9]) (BVl)) (BVk)
def Jf.fn:Fn:=⟨2,[.tmp 2],.seq (.reg false [o_ 2 (.move (.c .bool false))]) (BVj)⟩
def AR5:Cd:=td [4,5,6,7]
def AR4:Cd:=.ret
def AR3:Cd:=.seq (.seq (.reg false [ld 4 Za 0,
    ld 5 (.int .i64) 1,
    ld 6 (.int .i64) 2,
    o_ 7 (.call (.f 101) [(.t 4),(.t 5),(.t 6)] [.d .bool] [] false),
    mv 3 7]) (AR5)) (AR4)
def Jg.fn:Fn:=⟨3,[.tmp 3],.seq (.reg false [o_ 3 (.move (.c .bool false))]) (AR3)⟩
def ASb:Cd:=td [5,6,7,8,9,10]
def ASa:Cd:=.ret
def AR9:Cd:=.seq (.seq (.reg false [ld 5 Za 2,
    mv 6 1,
    o_ 7 (.call (.f 131) [(.t 5),(.t 6)] [.clo 138 [.ref Za,.ref (.int .i64)]] [] false),
    o_ 8 (.call (.f 132) [(.t 7)] [.d (.sl Zb)] [] false),
    le 9 8,
    bc 10 .sub 9 1,
    mv 4 10]) (ASb)) (ASa)
def Jc.fn:Fn:=⟨2,[.tmp 4],.seq (.reg false [bx 2 0 0,
    ci 4 0]) (AR9)⟩
def ASf:Cd:=td [7,8]
def ASj:Cd:=.skip
def ANn:Cd:=.exit 0
def ANg:Cd:=td [12]
def ANi:Cd:=td [13,14,15]
def ANk:Cd:=td [17,18,19,20,21,22,23,24,25]
def ANj:Cd:=.seq (.reg true [mv 17 5,
    od 18 (.load (.d Za) (.t 2)) [0] [],
    mv 19 6,
    o_ 20 (.call (.f 103) [(.t 18),(.t 19)] [.d (.int .i64)] [] false),
    od 21 (.load (.d Za) (.t 2)) [0] [],
    mv 22 1,
    o_ 23 (.call (.f 103) [(.t 21),(.t 22)] [.d (.int .i64)] [] false),
    bi 24 .sub 20 23,
    o_ 25 (.max [(.t 17),(.t 24)]),
    mv 5 25]) (ANk)
def ANm:Cd:=.skip
def ANh:Cd:=.cond (.t 16) (.seq (td [16]) (ANj)) (.seq (td [16]) (ANm))
def ANf:Cd:=.seq (.seq (.reg false [ld 13 Za 2,
    mv 14 6,
    mv 15 1,
    o_ 16 (.call (.f 101) [(.t 13),(.t 14),(.t 15)] [.d .bool] [] false)]) (ANi)) (ANh)
def ANl:Cd:=td [26]
def ANe:Cd:=.seq (.reg false [bc 26 .add 10 1,
    mv 10 26]) (ANl)
def ASi:Cd:=.seq (.block 1 (.seq (.seq (.reg false [mv 12 10,
    mv 6 12]) (ANg)) (ANf))) (ANe)
def ASh:Cd:=.seq (.cond (.t 11) (.seq (td [11]) (ASj)) (.seq (td [11]) (ANn))) (ASi)
def ASg:Cd:=.tidy [6] [] [] (some 1)
def AJz:Cd:=.seq (.seq (.reg false [bi 11 .lss 10 9]) (ASh)) (ASg)
def ASe:Cd:=.block 0 (.loop (AJz))
def ANp:Cd:=td [27]
def ANo:Cd:=.ret
def AJy:Cd:=.seq (.seq (.reg false [mv 27 5,
    mv 4 27]) (ANp)) (ANo)
def ASd:Cd:=.seq (.seq (.seq (.reg false [fa 7 Za 3 2,
    ld 8 (.sl Zb) 7,
    le 9 8,
    ci 10 0]) (ASf)) (ASe)) (AJy)
def ASc:Cd:=.seq (.reg false [ci 5 0]) (ASd)
def Xl.fn:Fn:=⟨2,[.tmp 4],.seq (.reg false [bx 2 0 0,
    ci 4 0]) (ASc)⟩
def AR8:Cd:=td [4,5,6,7,8,9,10,11,12]
def AR7:Cd:=.ret
def AR6:Cd:=.seq (.seq (.reg true [ld 4 Za 0,
    ld 5 (.int .i64) 1,
    o_ 6 (.call (.f 103) [(.t 4),(.t 5)] [.d (.int .i64)] [] false),
    bc 7 .add 6 1,
    ld 8 Za 0,
    ld 9 (.int .i64) 2,
    o_ 10 (.call (.f 104) [(.t 8),(.t 9)] [.d (.int .i64)] [] false),
    bi 11 .add 7 10,
    bc 12 .gtr 11 4,
    mv 3 12]) (AR8)) (AR7)
def Jh.fn:Fn:=⟨3,[.tmp 3],.seq (.reg false [o_ 3 (.move (.c .bool false))]) (AR6)⟩
def ASm:Cd:=td [3,4,5,6]
def ASl:Cd:=.ret
def ASk:Cd:=.seq (.seq (.reg false [ld 3 Za 0,
    ld 4 Zb 1,
    o_ 5 (.call (.f 106) [(.t 3),(.t 4)] [.d (.int .i64)] [] false),
    bc 6 .lss 5 1,
    mv 2 6]) (ASm)) (ASl)
def Ji.fn:Fn:=⟨2,[.tmp 2],.seq (.reg false [o_ 2 (.move (.c .bool false))]) (ASk)⟩
def BQy:Cd:=td [13,14,15,16]
def BQ0:Cd:=td [17,18,19,20,21,22,23,24,25,26,27,28,29,30]
def BQ3:Cd:=td [31]
def BE3:Cd:=td [33,34]
def BQ5:Cd:=.ret
def BQ4:Cd:=.seq (.seq (.reg false [ld 33 Za 4,
    mv 34 12,
    sr Za 8 33,
    mv 9 34]) (BE3)) (BQ5)
def BE4:Cd:=.skip
def BQ2:Cd:=.cond (.t 32) (.seq (td [32]) (BQ4)) (.seq (td [32]) (BE4))
def BE6:Cd:=td [35,36,37,38]
def BE5:Cd:=.ret
def BQ1:Cd:=.seq (.seq (.reg false [ld 35 Za 4,
    ld 36 (.int .i64) 6,
    ld 37 Zb 11,
    o_ 38 (.call (.f 107) [(.t 35),(.t 36),(.t 37)] [.d Za] [] false),
    sr Za 8 38,
    ci 9 0]) (BE6)) (BE5)
def BQz:Cd:=.seq (.seq (.seq (.reg false [mv 31 12,
    bc 32 .neq 31 0]) (BQ3)) (BQ2)) (BQ1)
def BQx:Cd:=.seq (.seq (.reg false [o_ 17 (.func 95 [(.t 4),(.t 6),(.t 7)]),
    o_ 18 (.buildv [1,1] [(.t 17),(.c (.int .i64) (3:Int))]),
    o_ 19 (.func 97 [(.t 4),(.t 6),(.t 10),(.t 5),(.t 7)]),
    o_ 20 (.buildv [1,1] [(.t 19),(.c (.int .i64) (5:Int))]),
    o_ 21 (.func 99 [(.t 4),(.t 7)]),
    o_ 22 (.buildv [1,1] [(.t 21),(.c (.int .i64) (6:Int))]),
    o_ 23 (.func 100 [(.t 4),(.t 7),(.t 6)]),
    o_ 24 (.buildv [1,1] [(.t 23),(.c (.int .i64) (7:Int))]),
    o_ 25 (.func 102 [(.t 4),(.t 7),(.t 6)]),
    o_ 26 (.buildv [1,1] [(.t 25),(.c (.int .i64) (8:Int))]),
    o_ 27 (.func 105 [(.t 4),(.t 11)]),
    o_ 28 (.buildv [1,1] [(.t 27),(.c (.int .i64) (9:Int))]),
    o_ 29 (.slicev 2 [(.t 18),(.t 20),(.t 22),(.t 24),(.t 26),(.t 28)]),
    o_ 30 (.call (.f 94) [(.t 29)] [.d (.int .i64)] [] false),
    mv 12 30]) (BQ0)) (BQz)
def BQw:Cd:=.seq (.seq (.reg true [od 13 (.load (.d (.int .i64)) (.t 5)) [1] [],
    o_ 14 (.build Zb [(0,(.c (.int .i64) (1:Int))),(1,(.t 13))] []),
    od 15 (.load (.d (.int .i64)) (.t 7)) [3] [],
    o_ 16 (.build Zb [(0,(.c (.int .i64) (2:Int))),(1,(.t 15))] []),
    od 10 (.newbox 5 Zb []) [] [5],
    od 11 (.newbox 6 Zb []) [] [6],
    ⟨none,.store (.d Zb) (.t 10) (.t 14),none,[],[5]⟩,
    ⟨none,.store (.d Zb) (.t 11) (.t 16),none,[],[6]⟩]) (BQy)) (BQx)
def V4.fn:Fn:=⟨4,[.cell 8 (.d Za),.tmp 9],.seq (.reg false [bx 4 0 0,
    bx 5 1 1,
    bx 6 2 2,
    bx 7 3 3,
    nb 8 4 Za,
    ci 9 0]) (BQw)⟩
def BQv:Cd:=td [8,9,10,11,12,13,14,15,16]
def BQu:Cd:=.ret
def BQt:Cd:=.seq (.seq (.reg false [ld 8 Za 3,
    mv 9 1,
    fa 10 Z5 2 5,
    ld 11 (.int .i64) 10,
    fa 12 Z5 3 5,
    ld 13 (.int .i64) 12,
    o_ 14 (.call (.f 62) [(.t 8),(.t 9),(.t 11),(.t 13)] [.d Za,.d (.int .i64)] [] false),
    xt 15 14 0,
    xt 16 14 1,
    sr Za 6 15,
    mv 7 16]) (BQv)) (BQu)
def Ql.fn:Fn:=⟨3,[.cell 6 (.d Za),.tmp 7],.seq (.reg false [bx 3 0 0,
    bx 5 1 2,
    nb 6 2 Za,
    ci 7 0]) (BQt)⟩
def BUk:Cd:=td [6,7,8,9,10,11,12,13]
def BUj:Cd:=.ret
def BUi:Cd:=.seq (.seq (.reg false [fa 6 Za 1 2,
    o_ 7 (.load (.d (.sl (.int .i64))) (.t 6)),
    mv 8 1,
    ix 9 (.sl (.int .i64)) 7 8,
    ld 10 (.int .i64) 9,
    o_ 11 (.build Zb [(0,(.c (.int .i64) (0:Int))),(1,(.t 10))] []),
    mv 12 1,
    o_ 13 (.build Zb [(0,(.c (.int .i64) (1:Int))),(1,(.t 12))] []),
    sr Zb 4 11,
    sr Zb 5 13]) (BUk)) (BUj)
def Q2.fn:Fn:=⟨2,[.cell 4 (.d Zb),.cell 5 (.d Zb)],.seq (.reg false [bx 2 0 0,
    nb 4 1 Zb,
    nb 5 2 Zb]) (BUi)⟩
def BUo:Cd:=td [11,12,13,14,15,16,17,18,19]
def BUr:Cd:=td [20]
def BUq:Cd:=.ret
def BUp:Cd:=.seq (.seq (.reg false [ld 20 Za 4,
    sr Za 8 20,
    ci 9 3]) (BUr)) (BUq)
def BUu:Cd:=td [22,23,24,25,26,27,28]
def BIk:Cd:=td [29]
def BIj:Cd:=.ret
def BIi:Cd:=.seq (.seq (.reg false [ld 29 Za 4,
    sr Za 8 29,
    ci 9 5]) (BIk)) (BIj)
def BIn:Cd:=td [31,32,33,34]
def BIq:Cd:=td [35]
def BIp:Cd:=.ret
def BIo:Cd:=.seq (.seq (.reg false [ld 35 Za 4,
    sr Za 8 35,
    ci 9 9]) (BIq)) (BIp)
def BIr:Cd:=.skip
def BIm:Cd:=.cond (.t 30) (.seq (td [30]) (BIo)) (.seq (td [30]) (BIr))
def BIl:Cd:=.seq (.seq (.reg false [ld 31 Za 4,
    ld 32 Zb 7,
    o_ 33 (.call (.f 106) [(.t 31),(.t 32)] [.d (.int .i64)] [] false),
    bc 34 .lss 33 1,
    mv 30 34]) (BIn)) (BIm)
def BUt:Cd:=.cond (.t 21) (.seq (td [21]) (BIi)) (.seq (td [21]) (BIl))
def BUs:Cd:=.seq (.seq (.reg true [od 22 (.fieldAddr (.d Za) 3 (.t 4)) [0] [],
    od 23 (.load (.d (.sl Zb)) (.t 22)) [0] [],
    mv 24 1,
    ix 25 (.sl Zb) 23 24,
    ld 26 Zb 25,
    od 27 (.load (.d Zb) (.t 6)) [1] [],
    o_ 28 (.eqs Zb true (.t 26) (.t 27)),
    mv 21 28]) (BUu)) (BUt)
def BUn:Cd:=.cond (.t 10) (.seq (td [10]) (BUp)) (.seq (td [10]) (BUs))
def BIt:Cd:=td [36,37,38,39]
def BIs:Cd:=.ret
def BUm:Cd:=.seq (.seq (.reg false [ld 36 Za 4,
    mv 37 1,
    ld 38 Zb 7,
    o_ 39 (.call (.f 107) [(.t 36),(.t 37),(.t 38)] [.d Za] [] false),
    sr Za 8 39,
    ci 9 0]) (BIt)) (BIs)
def BUl:Cd:=.seq (.block 0 (.seq (.seq (.reg false [mv 11 1,
    bc 12 .lss 11 0,
    mv 13 12,
    og 14 (.move (.t 1)) 13 false,
    og 15 (.fieldAddr (.d Za) 3 (.t 4)) 13 false,
    og 16 (.load (.d (.sl Zb)) (.t 15)) 13 false,
    og 17 (.len (.t 16)) 13 false,
    og 18 (.bin .geq (.t 14) (.t 17)) 13 false,
    o_ 19 (.pick (.t 13) (.c .bool true) (.t 18)),
    mv 10 19]) (BUo)) (BUn))) (BUm)
def Vr.fn:Fn:=⟨4,[.cell 8 (.d Za),.tmp 9],.seq (.reg false [bx 4 0 0,
    bx 6 1 2,
    bx 7 2 3,
    nb 8 3 Za,
    ci 9 0]) (BUl)⟩
def BQq:Cd:=td [10,11,12,13,14,15]
def BQs:Cd:=td [16,17,18,19,20,21,22]
def BQr:Cd:=.ret
def BQp:Cd:=.seq (.seq (.reg false [ld 16 Za 3,
    mv 17 2,
    ld 18 Zb 9,
    ld 19 Zb 8,
    o_ 20 (.call (.f 93) [(.t 16),(.t 17),(.t 18),(.t 19)] [.d Za,.d (.int .i64)] [] false),
    xt 21 20 0,
    xt 22 20 1,
    sr Za 6 21,
    mv 7 22]) (BQs)) (BQr)
def BQo:Cd:=.seq (.seq (.reg false [ld 11 Za 3,
    mv 12 1,
    o_ 13 (.call (.f 92) [(.t 11),(.t 12)] [.d Zb,.d Zb] [] false),
    mv 10 13,
    xt 14 10 0,
    xt 15 10 1,
    nb 8 2 Zb,
    nb 9 3 Zb,
    sr Zb 8 14,
    sr Zb 9 15]) (BQq)) (BQp)
def V8.fn:Fn:=⟨3,[.cell 6 (.d Za),.tmp 7],.seq (.reg false [bx 3 0 0,
    nb 6 1 Za,
    ci 7 0]) (BQo)⟩
def BQn:Cd:=td [8,9,10,11,12,13,14]
def BQm:Cd:=.ret
def BQl:Cd:=.seq (.seq (.reg false [ld 8 Za 3,
    mv 9 1,
    fa 10 Z5 2 5,
    ld 11 (.int .i64) 10,
    o_ 12 (.call (.f 60) [(.t 8),(.t 9),(.t 11)] [.d Za,.d (.int .i64)] [] false),
    xt 13 12 0,
    xt 14 12 1,
    sr Za 6 13,
    mv 7 14]) (BQn)) (BQm)
def Qk.fn:Fn:=⟨3,[.cell 6 (.d Za),.tmp 7],.seq (.reg false [bx 3 0 0,
    bx 5 1 2,
    nb 6 2 Za,
    ci 7 0]) (BQl)⟩
def BQi:Cd:=td [10,11,12,13,14,15]
def BQk:Cd:=td [16,17,18,19,20,21,22]
def BQj:Cd:=.ret
def BQh:Cd:=.seq (.seq (.reg false [ld 16 Za 3,
    mv 17 2,
    ld 18 Zb 8,
    ld 19 Zb 9,
    o_ 20 (.call (.f 93) [(.t 16),(.t 17),(.t 18),(.t 19)] [.d Za,.d (.int .i64)] [] false),
    xt 21 20 0,
    xt 22 20 1,
    sr Za 6 21,
    mv 7 22]) (BQk)) (BQj)
def BQg:Cd:=.seq (.seq (.reg false [ld 11 Za 3,
    mv 12 1,
    o_ 13 (.call (.f 92) [(.t 11),(.t 12)] [.d Zb,.d Zb] [] false),
    mv 10 13,
    xt 14 10 0,
    xt 15 10 1,
    nb 8 2 Zb,
    nb 9 3 Zb,
    sr Zb 8 14,
    sr Zb 9 15]) (BQi)) (BQh)
def Hc.fn:Fn:=⟨3,[.cell 6 (.d Za),.tmp 7],.seq (.reg false [bx 3 0 0,
    nb 6 1 Za,
    ci 7 0]) (BQg)⟩
def BQf:Cd:=td [8,9,10,11,12,13,14]
def BQe:Cd:=.ret
def BQd:Cd:=.seq (.seq (.reg false [ld 8 Za 3,
    mv 9 1,
    fa 10 Z5 2 5,
    ld 11 (.int .i64) 10,
    o_ 12 (.call (.f 58) [(.t 8),(.t 9),(.t 11)] [.d Za,.d (.int .i64)] [] false),
    xt 13 12 0,
    xt 14 12 1,
    sr Za 6 13,
    mv 7 14]) (BQf)) (BQe)
def Qj.fn:Fn:=⟨3,[.cell 6 (.d Za),.tmp 7],.seq (.reg false [bx 3 0 0,
    bx 5 1 2,
    nb 6 2 Za,
    ci 7 0]) (BQd)⟩
def BT0:Cd:=td [7]
def BTz:Cd:=.ret
def BTy:Cd:=.seq (.seq (.reg false [o_ 7 (.func 128 [(.t 5),(.t 3),(.t 4)]),
    mv 6 7]) (BT0)) (BTz)
def Vx.fn:Fn:=⟨3,[.tmp 6],.seq (.reg false [bx 3 0 0,
    bx 4 1 1,
    bx 5 2 2,
    o_ 6 (.move .nf)]) (BTy)⟩
def BT6:Cd:=td [5,6,7,8,9,10,11,12,13]
def BT8:Cd:=.ret
def BT7:Cd:=.seq (.reg false [ci 3 3]) (BT8)
def BUb:Cd:=td [15,16,17]
def BIa:Cd:=.ret
def BUc:Cd:=.seq (.reg false [ci 3 12]) (BIa)
def BId:Cd:=td [19,20,21,22,23,24,25,26,27,28,29]
def BIf:Cd:=.ret
def BIe:Cd:=.seq (.reg false [ci 3 5]) (BIf)
def BIg:Cd:=.skip
def BIc:Cd:=.cond (.t 18) (.seq (td [18]) (BIe)) (.seq (td [18]) (BIg))
def BIb:Cd:=.seq (.seq (.reg true [fa 19 Za 1 1,
    o_ 20 (.load (.d (.sl (.int .i64))) (.t 19)),
    ld 21 (.int .i64) 0,
    ix 22 (.sl (.int .i64)) 20 21,
    ld 23 (.int .i64) 22,
    fa 24 Za 1 1,
    o_ 25 (.load (.d (.sl (.int .i64))) (.t 24)),
    ld 26 (.int .i64) 2,
    ix 27 (.sl (.int .i64)) 25 26,
    ld 28 (.int .i64) 27,
    bi 29 .neq 23 28,
    mv 18 29]) (BId)) (BIc)
def BUa:Cd:=.cond (.t 14) (.seq (td [14]) (BUc)) (.seq (td [14]) (BIb))
def BT9:Cd:=.seq (.seq (.reg false [ld 15 (.int .i64) 0,
    ld 16 (.int .i64) 2,
    bi 17 .eql 15 16,
    mv 14 17]) (BUb)) (BUa)
def BT5:Cd:=.cond (.t 4) (.seq (td [4]) (BT7)) (.seq (td [4]) (BT9))
def BIh:Cd:=.ret
def BT4:Cd:=.seq (.reg false [ci 3 0]) (BIh)
def BT3:Cd:=.seq (.block 0 (.seq (.seq (.reg false [ld 5 (.int .i64) 0,
    bc 6 .lss 5 0,
    mv 7 6,
    og 8 (.load (.d (.int .i64)) (.t 0)) 7 false,
    og 9 (.fieldAddr (.d Za) 1 (.t 1)) 7 false,
    og 10 (.load (.d (.sl (.int .i64))) (.t 9)) 7 false,
    og 11 (.len (.t 10)) 7 false,
    og 12 (.bin .geq (.t 8) (.t 11)) 7 false,
    o_ 13 (.pick (.t 7) (.c .bool true) (.t 12)),
    mv 4 13]) (BT6)) (BT5))) (BT4)
def Jk.fn:Fn:=⟨3,[.tmp 3],.seq (.reg false [ci 3 0]) (BT3)⟩
def AVn:Cd:=td [9,10,11,12,13,14,15,16]
def AVp:Cd:=td [17,18,19,20]
def AVo:Cd:=.ret
def AVm:Cd:=.seq (.seq (.reg false [mv 17 8,
    o_ 18 (.max [(.t 17),(.c (.int .i64) (0:Int))]),
    mv 19 8,
    bc 20 .geq 19 0,
    mv 6 18,
    mv 7 20]) (AVp)) (AVo)
def AVl:Cd:=.seq (.seq (.reg false [fa 9 Za 0 3,
    fa 10 Zx 0 9,
    o_ 11 (.load (.d (.sl (.arr 4 (.int .i64)))) (.t 10)),
    mv 12 1,
    mv 13 2,
    o_ 14 (.index (.sl (.arr 4 (.int .i64))) (.t 11) (.t 12)),
    o_ 15 (.index (.arr 4 (.int .i64)) (.t 14) (.t 13)),
    ld 16 (.int .i64) 15,
    mv 8 16]) (AVn)) (AVm)
def J9.fn:Fn:=⟨3,[.tmp 6,.tmp 7],.seq (.reg false [bx 3 0 0,
    ci 6 0,
    o_ 7 (.move (.c .bool false))]) (AVl)⟩
def AVe:Cd:=td [12,13]
def AVg:Cd:=td [14]
def AVj:Cd:=td [16,17]
def AVi:Cd:=.ret
def AVh:Cd:=.seq (.seq (.reg false [ld 16 Za 2,
    mv 17 8,
    sr Za 5 16,
    ci 6 0,
    mv 7 17]) (AVj)) (AVi)
def AVk:Cd:=.skip
def AVf:Cd:=.cond (.t 15) (.seq (td [15]) (AVh)) (.seq (td [15]) (AVk))
def AVd:Cd:=.seq (.seq (.reg false [mv 14 8,
    bc 15 .neq 14 0]) (AVg)) (AVf)
def APf:Cd:=td [18,19,20,21,22,23,24,25,26,27,28]
def APi:Cd:=td [29]
def APl:Cd:=td [31]
def APk:Cd:=.ret
def APj:Cd:=.seq (.seq (.reg false [ld 31 Za 2,
    sr Za 5 31,
    ci 6 0,
    ci 7 4]) (APl)) (APk)
def APm:Cd:=.skip
def APh:Cd:=.cond (.t 30) (.seq (td [30]) (APj)) (.seq (td [30]) (APm))
def APo:Cd:=td [32,33]
def APq:Cd:=td [34,35,36,37,38]
def APs:Cd:=td [39,40]
def APr:Cd:=.ret
def APp:Cd:=.seq (.seq (.reg false [ld 39 Za 11,
    mv 40 9,
    sr Za 5 39,
    mv 6 40,
    ci 7 0]) (APs)) (APr)
def APn:Cd:=.seq (.seq (.reg false [fa 34 Za 1 11,
    o_ 35 (.load (.d (.sl (.int .i64))) (.t 34)),
    mv 36 0,
    mv 37 9,
    ix 38 (.sl (.int .i64)) 35 36,
    sr (.int .i64) 38 37]) (APq)) (APp)
def APg:Cd:=.seq (.seq (.reg false [ld 32 Za 2,
    o_ 33 (.call (.f 122) [(.t 32)] [.d Za] [((0,[1]),2)] false),
    nb 11 1 Za,
    sr Za 11 33]) (APo)) (APn)
def APe:Cd:=.seq (.seq (.seq (.reg false [mv 29 10,
    nt 30 29]) (APi)) (APh)) (APg)
def AVc:Cd:=.seq (.seq (.reg true [ld 19 Za 2,
    fa 20 Za 1 2,
    o_ 21 (.load (.d (.sl (.int .i64))) (.t 20)),
    mv 22 0,
    ix 23 (.sl (.int .i64)) 21 22,
    ld 24 (.int .i64) 23,
    ld 25 (.int .i64) 3,
    o_ 26 (.call (.f 129) [(.t 19),(.t 24),(.t 25)] [.d (.int .i64),.d .bool] [] false),
    mv 18 26,
    xt 27 18 0,
    xt 28 18 1,
    mv 9 27,
    mv 10 28]) (APf)) (APe)
def AVb:Cd:=.seq (.seq (.seq (.reg false [o_ 12 (.load (.v false 1) (.t 1)),
    o_ 13 (.call (.t 12) [] [.d (.int .i64)] [] false),
    mv 8 13]) (AVe)) (AVd)) (AVc)
def Qx.fn:Fn:=⟨4,[.cell 5 (.d Za),.tmp 6,.tmp 7],.seq (.reg false [nb 5 0 Za,
    ci 6 0,
    ci 7 0]) (AVb)⟩
def BP9:Cd:=.reg true [od 11 (.load (.d Za) (.t 4)) [0] [],
    mv 12 3,
    o_ 13 (.func 90 [(.t 6),(.t 4),(.t 5)]),
    od 14 (.call (.f 88) [(.t 11),(.t 12),(.t 13)] [.clo 128 [.refv (.clo 90 [.ref (.int .i64),.ref Za,.ref (.int .i64)]),.ref Za,.ref (.int .i64)]] [] false) [0,1,2] [],
    od 15 (.load (.d (.int .i64)) (.t 6)) [2] [],
    o_ 16 (.call (.t 14) [(.t 15)] [.d Za,.d (.int .i64),.d (.int .i64)] [] false),
    xt 17 16 0,
    xt 18 16 1,
    xt 19 16 2,
    ⟨none,.store (.d Za) (.t 8) (.t 17),none,[],[3]⟩,
    mv 9 18,
    mv 10 19]
def BP8:Cd:=td [11,12,13,14,15,16,17,18,19]
def BP7:Cd:=.ret
def BP6:Cd:=.seq (.seq (.seq (.frz [0,1,2]) (BP9)) (BP8)) (BP7)
def Kb.fn:Fn:=⟨4,[.cell 8 (.d Za),.tmp 9,.tmp 10],.seq (.reg false [bx 4 0 0,
    bx 5 1 1,
    bx 6 2 2,
    nb 8 3 Za,
    ci 9 0,
    ci 10 0]) (BP6)⟩
def BP5:Cd:=td [9,10,11,12,13,14,15,16,17,18]
def BP4:Cd:=.ret
def BP3:Cd:=.seq (.seq (.reg false [ld 9 Za 3,
    mv 10 1,
    fa 11 Z5 4 5,
    ld 12 (.int .i64) 11,
    fa 13 Z5 1 5,
    ld 14 (.int .i64) 13,
    o_ 15 (.call (.f 55) [(.t 9),(.t 10),(.t 12),(.t 14)] [.d Za,.d (.int .i64),.d (.int .i64)] [] false),
    xt 16 15 0,
    xt 17 15 1,
    xt 18 15 2,
    sr Za 6 16,
    mv 7 17,
    mv 8 18]) (BP5)) (BP4)
def Qi.fn:Fn:=⟨3,[.cell 6 (.d Za),.tmp 7,.tmp 8],.seq (.reg false [bx 3 0 0,
    bx 5 1 2,
    nb 6 2 Za,
    ci 7 0,
    ci 8 0]) (BP3)⟩
def BTl:Cd:=td [12,13,14,15,16,17,18,19,20]
def BTn:Cd:=td [21,22,23,24,25,26]
def BTm:Cd:=.ret
def BTk:Cd:=.seq (.seq (.reg true [od 21 (.load (.d Za) (.t 9)) [4] [],
    od 22 (.fieldAddr (.d Z5) 0 (.t 6)) [1] [],
    od 23 (.load (.d (.int .i64)) (.t 22)) [1] [],
    mv 24 10,
    mv 25 11,
    o_ 26 (.call (.f 87) [(.t 23),(.t 24),(.t 25)] [.d Zm] [] false),
    ⟨none,.store (.d Za) (.t 7) (.t 21),none,[],[2]⟩,
    ⟨none,.store (.d Zm) (.t 8) (.t 26),none,[],[3]⟩]) (BTn)) (BTm)
def BTj:Cd:=.seq (.seq (.reg false [o_ 13 (.load (.v false 1) (.t 3)),
    ld 14 Za 4,
    mv 15 1,
    ld 16 Z5 6,
    o_ 17 (.call (.t 13) [(.t 14),(.t 15),(.t 16)] [.d Za,.d (.int .i64),.d (.int .i64)] [] false),
    mv 12 17,
    xt 18 12 0,
    xt 19 12 1,
    xt 20 12 2,
    nb 9 4 Za,
    sr Za 9 18,
    mv 10 19,
    mv 11 20]) (BTl)) (BTk)
def Qo.fn:Fn:=⟨4,[.cell 7 (.d Za),.cell 8 (.d Zm)],.seq (.reg false [bx 4 0 0,
    bx 6 1 2,
    nb 7 2 Za,
    nb 8 3 Zm]) (BTj)⟩
def BT2:Cd:=.ret
def BT1:Cd:=.seq (.reg false [ci 0 0]) (BT2)
def J5.fn:Fn:=⟨0,[.tmp 0],.seq (.reg false [ci 0 0]) (BT1)⟩
def BP2:Cd:=td [9,10,11,12,13,14,15,16]
def BP1:Cd:=.ret
def BP0:Cd:=.seq (.seq (.reg false [ld 9 Za 3,
    mv 10 2,
    o_ 11 (.call (.f 88) [(.t 9),(.t 10),(.f 89)] [.clo 128 [.refv (.clo 89 []),.ref Za,.ref (.int .i64)]] [] false),
    mv 12 1,
    o_ 13 (.call (.t 11) [(.t 12)] [.d Za,.d (.int .i64),.d (.int .i64)] [] false),
    xt 14 13 0,
    xt 15 13 1,
    xt 16 13 2,
    sr Za 6 14,
    mv 7 15,
    mv 8 16]) (BP2)) (BP1)
def Ka.fn:Fn:=⟨3,[.cell 6 (.d Za),.tmp 7,.tmp 8],.seq (.reg false [bx 3 0 0,
    nb 6 1 Za,
    ci 7 0,
    ci 8 0]) (BP0)⟩
def BPz:Cd:=td [9,10,11,12,13,14,15,16]
def BPy:Cd:=.ret
def BPx:Cd:=.seq (.seq (.reg false [ld 9 Za 3,
    mv 10 1,
    fa 11 Z5 1 5,
    ld 12 (.int .i64) 11,
    o_ 13 (.call (.f 53) [(.t 9),(.t 10),(.t 12)] [.d Za,.d (.int .i64),.d (.int .i64)] [] false),
    xt 14 13 0,
    xt 15 13 1,
    xt 16 13 2,
    sr Za 6 14,
    mv 7 15,
    mv 8 16]) (BPz)) (BPy)
def Qh.fn:Fn:=⟨3,[.cell 6 (.d Za),.tmp 7,.tmp 8],.seq (.reg false [bx 3 0 0,
    bx 5 1 2,
    nb 6 2 Za,
    ci 7 0,
    ci 8 0]) (BPx)⟩
def BKf:Cd:=td [8,9]
def BKi:Cd:=td [11,12]
def BKh:Cd:=.ret
def BKg:Cd:=.seq (.seq (.reg false [ld 11 Za 3,
    o_ 12 (.build Zm [(0,(.c (.int .i64) (2:Int)))] []),
    sr Za 6 11,
    sr Zm 7 12]) (BKi)) (BKh)
def BKj:Cd:=.skip
def BKe:Cd:=.cond (.t 10) (.seq (td [10]) (BKg)) (.seq (td [10]) (BKj))
def BKl:Cd:=td [13,14,15,16,17,18,19,20,21,22]
def BKk:Cd:=.ret
def BKd:Cd:=.seq (.seq (.reg true [o_ 13 (.call (.f 22) [] [.fmap [1,2,3,4,5,6,7,8,9,10] [.clo 86 [.refv (.clo 52 [])],.clo 86 [.refv (.clo 54 [])],.clo 91 [.refv (.clo 57 [])],.clo 91 [.refv (.clo 59 [])],.clo 91 [.refv (.clo 61 [])],.clo 91 [.refv (.clo 63 [])],.clo 91 [.refv (.clo 65 [])],.clo 91 [.refv (.clo 67 [])],.clo 123 [.refv (.clo 69 [])],.clo 123 [.refv (.clo 70 [])]]] [] false),
    od 14 (.fieldAddr (.d Z5) 0 (.t 5)) [1] [],
    od 15 (.load (.d (.int .i64)) (.t 14)) [1] [],
    o_ 16 (.lookv (.t 13) (.t 15) false),
    od 17 (.load (.d Za) (.t 3)) [0] [],
    mv 18 1,
    od 19 (.load (.d Z5) (.t 5)) [1] [],
    o_ 20 (.call (.t 16) [(.t 17),(.t 18),(.t 19)] [.d Za,.d Zm] [] false),
    xt 21 20 0,
    xt 22 20 1,
    ⟨none,.store (.d Za) (.t 6) (.t 21),none,[],[2]⟩,
    ⟨none,.store (.d Zm) (.t 7) (.t 22),none,[],[3]⟩]) (BKl)) (BKk)
def BKc:Cd:=.seq (.seq (.seq (.reg false [ld 8 Z5 5,
    o_ 9 (.call (.f 21) [(.t 8)] [.d .bool] [] false),
    nt 10 9]) (BKf)) (BKe)) (BKd)
def Jo.fn:Fn:=⟨3,[.cell 6 (.d Za),.cell 7 (.d Zm)],.seq (.reg false [bx 3 0 0,
    bx 5 1 2,
    nb 6 2 Za,
    nb 7 3 Zm]) (BKc)⟩
def BL8:Cd:=.skip
def BAe:Cd:=.exit 0
def AZ7:Cd:=td [15,16]
def AZ9:Cd:=td [17,18,19,20,21,22,23,24,25]
def BAb:Cd:=td [26]
def BAc:Cd:=td [27,28,29,30]
def BAa:Cd:=.seq (.reg false [mv 27 6,
    ld 28 Zm 10,
    o_ 29 (.slice 5 Zm [(.t 28)]),
    o_ 30 (.append 6 Zm (.t 27) (.t 29)),
    mv 6 30]) (BAc)
def AZ8:Cd:=.seq (.seq (.reg false [ld 26 Za 9,
    sr Za 2 26]) (BAb)) (BAa)
def AZ6:Cd:=.seq (.seq (.reg false [ld 18 Za 2,
    fa 19 Yb 0 8,
    ld 20 (.int .i64) 19,
    fa 21 Yb 1 8,
    ld 22 Z5 21,
    o_ 23 (.call (.f 10) [(.t 18),(.t 20),(.t 22)] [.d Za,.d Zm] [] false),
    mv 17 23,
    xt 24 17 0,
    xt 25 17 1,
    nb 9 3 Za,
    nb 10 4 Zm,
    sr Za 9 24,
    sr Zm 10 25]) (AZ9)) (AZ8)
def BAd:Cd:=td [31]
def BL9:Cd:=.seq (.reg false [bc 31 .add 13 1,
    mv 13 31]) (BAd)
def BL7:Cd:=.seq (.block 1 (.seq (.seq (.reg false [ix 15 (.sl Yb) 11 13,
    ld 16 Yb 15,
    nb 8 2 Yb,
    sr Yb 8 16]) (AZ7)) (AZ6))) (BL9)
def BL6:Cd:=.seq (.cond (.t 14) (.seq (td [14]) (BL8)) (.seq (td [14]) (BAe))) (BL7)
def BL5:Cd:=.tidy [8,9,10] [(6,7)] [2,3,4,5] (some 8)
def BL4:Cd:=.seq (.seq (.reg false [bi 14 .lss 13 12]) (BL6)) (BL5)
def BL3:Cd:=.block 0 (.loop (BL4))
def BAg:Cd:=td [32,33]
def BAf:Cd:=.ret
def BL2:Cd:=.seq (.seq (.reg false [ld 32 Za 2,
    mv 33 6,
    sr Za 4 32,
    mv 5 33]) (BAg)) (BAf)
def BL1:Cd:=.seq (.seq (.reg false [mv 11 1,
    le 12 11,
    ci 13 0]) (BL3)) (BL2)
def BL0:Cd:=.seq (.reg false [o_ 6 (.mknil 7 Zm)]) (BL1)
def W9.fn:Fn:=⟨2,[.cell 4 (.d Za),.tmp 5],.seq (.reg false [bx 2 0 0,
    nb 4 1 Za,
    o_ 5 (.move (.c (.sl Zm) []))]) (BL0)⟩
def BMl:Cd:=td [6,7,8,9]
def BMn:Cd:=.ret
def BMm:Cd:=.seq (.reg false [o_ 4 (.move (.c .bool false))]) (BMn)
def BMo:Cd:=.skip
def BMk:Cd:=.cond (.t 10) (.seq (td [10]) (BMm)) (.seq (td [10]) (BMo))
def BAk:Cd:=td [11,12,13]
def BAl:Cd:=.skip
def BAt:Cd:=.exit 0
def BAj:Cd:=.cond (.t 14) (.seq (td [14]) (BAl)) (.seq (td [14]) (BAt))
def BAo:Cd:=td [17,18,19,20,21,22,23,24]
def BAq:Cd:=.ret
def BAp:Cd:=.seq (.reg false [o_ 4 (.move (.c .bool false))]) (BAq)
def BAr:Cd:=.skip
def BAn:Cd:=.cond (.t 25) (.seq (td [25]) (BAp)) (.seq (td [25]) (BAr))
def BAs:Cd:=td [15,16]
def BAm:Cd:=.seq (.reg false [mv 15 5,
    bc 16 .add 15 1,
    mv 5 16]) (BAs)
def BAi:Cd:=.seq (.block 1 (.seq (.seq (.reg true [mv 17 0,
    mv 18 5,
    ix 19 (.sl (.int .i64)) 17 18,
    ld 20 (.int .i64) 19,
    mv 21 1,
    mv 22 5,
    ix 23 (.sl (.int .i64)) 21 22,
    ld 24 (.int .i64) 23,
    bi 25 .neq 20 24]) (BAo)) (BAn))) (BAm)
def BAh:Cd:=.tidy [] [] [] (some 0)
def ARe:Cd:=.seq (.seq (.seq (.seq (.reg false [mv 11 5,
    mv 12 0,
    le 13 12,
    bi 14 .lss 11 13]) (BAk)) (BAj)) (BAi)) (BAh)
def BMp:Cd:=.block 0 (.loop (ARe))
def BAu:Cd:=.ret
def ARd:Cd:=.seq (.reg false [o_ 4 (.move (.c .bool true))]) (BAu)
def BMj:Cd:=.seq (.seq (.reg false [ci 5 0]) (BMp)) (ARd)
def BMi:Cd:=.seq (.seq (.seq (.reg false [mv 6 0,
    le 7 6,
    mv 8 1,
    le 9 8,
    bi 10 .neq 7 9]) (BMl)) (BMk)) (BMj)
def Zu.fn:Fn:=⟨2,[.tmp 4],.seq (.reg false [o_ 4 (.move (.c .bool false))]) (BMi)⟩
def BM1:Cd:=td [6,7,8,9]
def BM3:Cd:=.ret
def BM2:Cd:=.seq (.reg false [o_ 4 (.move (.c .bool false))]) (BM3)
def BM4:Cd:=.skip
def BM0:Cd:=.cond (.t 10) (.seq (td [10]) (BM2)) (.seq (td [10]) (BM4))
def BBc:Cd:=td [11,12,13]
def BBd:Cd:=.skip
def BBl:Cd:=.exit 0
def BBb:Cd:=.cond (.t 14) (.seq (td [14]) (BBd)) (.seq (td [14]) (BBl))
def BBg:Cd:=td [17,18,19,20,21,22,23,24]
def BBi:Cd:=.ret
def BBh:Cd:=.seq (.reg false [o_ 4 (.move (.c .bool false))]) (BBi)
def BBj:Cd:=.skip
def BBf:Cd:=.cond (.t 25) (.seq (td [25]) (BBh)) (.seq (td [25]) (BBj))
def BBk:Cd:=td [15,16]
def BBe:Cd:=.seq (.reg false [mv 15 5,
    bc 16 .add 15 1,
    mv 5 16]) (BBk)
def BBa:Cd:=.seq (.block 1 (.seq (.seq (.reg true [mv 17 0,
    mv 18 5,
    ix 19 (.sl Z7) 17 18,
    ld 20 Z7 19,
    mv 21 1,
    mv 22 5,
    ix 23 (.sl Z7) 21 22,
    ld 24 Z7 23,
    o_ 25 (.eqs Z7 true (.t 20) (.t 24))]) (BBg)) (BBf))) (BBe)
def BA9:Cd:=.tidy [] [] [] (some 0)
def ARi:Cd:=.seq (.seq (.seq (.seq (.reg false [mv 11 5,
    mv 12 0,
    le 13 12,
    bi 14 .lss 11 13]) (BBc)) (BBb)) (BBa)) (BA9)
def BM5:Cd:=.block 0 (.loop (ARi))
def BBm:Cd:=.ret
def ARh:Cd:=.seq (.reg false [o_ 4 (.move (.c .bool true))]) (BBm)
def BMz:Cd:=.seq (.seq (.reg false [ci 5 0]) (BM5)) (ARh)
def BMy:Cd:=.seq (.seq (.seq (.reg false [mv 6 0,
    le 7 6,
    mv 8 1,
    le 9 8,
    bi 10 .neq 7 9]) (BM1)) (BM0)) (BMz)
def Zz.fn:Fn:=⟨2,[.tmp 4],.seq (.reg false [o_ 4 (.move (.c .bool false))]) (BMy)⟩
def BKy:Cd:=td [5,6,7,8,9,10,11,12,13,14,15,16,17,18,19,20,21,22,23,24,25,26,27,28,29,30,31,32,33,34,35,36,37,38,39,40,41,42,43,44]
def BKx:Cd:=.ret
def BKw:Cd:=.seq (.seq (.reg false [fa 5 Zm 0 2,
    ld 6 (.int .i64) 5,
    fa 7 Zm 0 3,
    ld 8 (.int .i64) 7,
    bi 9 .eql 6 8,
    mv 10 9,
    og 11 (.fieldAddr (.d Zm) 1 (.t 2)) 10 true,
    og 12 (.load (.d (.int .i64)) (.t 11)) 10 true,
    og 13 (.fieldAddr (.d Zm) 1 (.t 3)) 10 true,
    og 14 (.load (.d (.int .i64)) (.t 13)) 10 true,
    og 15 (.bin .eql (.t 12) (.t 14)) 10 true,
    o_ 16 (.pick (.t 10) (.t 15) (.c .bool false)),
    mv 17 16,
    og 18 (.fieldAddr (.d Zm) 2 (.t 2)) 17 true,
    og 19 (.load (.d (.int .i64)) (.t 18)) 17 true,
    og 20 (.fieldAddr (.d Zm) 2 (.t 3)) 17 true,
    og 21 (.load (.d (.int .i64)) (.t 20)) 17 true,
    og 22 (.bin .eql (.t 19) (.t 21)) 17 true,
    o_ 23 (.pick (.t 17) (.t 22) (.c .bool false)),
    mv 24 23,
    og 25 (.fieldAddr (.d Zm) 5 (.t 2)) 24 true,
    og 26 (.load (.d (.int .i64)) (.t 25)) 24 true,
    og 27 (.fieldAddr (.d Zm) 5 (.t 3)) 24 true,
    og 28 (.load (.d (.int .i64)) (.t 27)) 24 true,
    og 29 (.bin .eql (.t 26) (.t 28)) 24 true,
    o_ 30 (.pick (.t 24) (.t 29) (.c .bool false)),
    mv 31 30,
    og 32 (.fieldAddr (.d Zm) 3 (.t 2)) 31 true,
    og 33 (.load (.d (.sl (.int .i64))) (.t 32)) 31 true,
    og 34 (.fieldAddr (.d Zm) 3 (.t 3)) 31 true,
    og 35 (.load (.d (.sl (.int .i64))) (.t 34)) 31 true,
    og 36 (.call (.f 33) [(.t 33),(.t 35)] [.d .bool] [] false) 31 true,
    o_ 37 (.pick (.t 31) (.t 36) (.c .bool false)),
    mv 38 37,
    og 39 (.fieldAddr (.d Zm) 4 (.t 2)) 38 true,
    og 40 (.load (.d (.sl Z7)) (.t 39)) 38 true,
    og 41 (.fieldAddr (.d Zm) 4 (.t 3)) 38 true,
    og 42 (.load (.d (.sl Z7)) (.t 41)) 38 true,
    og 43 (.call (.f 35) [(.t 40),(.t 42)] [.d .bool] [] false) 38 true,
    o_ 44 (.pick (.t 38) (.t 43) (.c .bool false)),
    mv 4 44]) (BKy)) (BKx)
def X2.fn:Fn:=⟨2,[.tmp 4],.seq (.reg false [bx 2 0 0,
    bx 3 1 1,
    o_ 4 (.move (.c .bool false))]) (BKw)⟩
def BV7:Cd:=td [12,13,14,15,16,17,18,19,20]
def BV9:Cd:=td [21,22,23,24,25,26]
def BWb:Cd:=td [4,27,28,29,30,31,32]
def BWd:Cd:=td [33,34,35,36,37,38]
def BSh:Cd:=td [8,39,40,41,42,43,44]
def BSj:Cd:=td [10,45,46,47,48,49,50,51,52,53,54,55,56]
def BSm:Cd:=td [57,58]
def BSo:Cd:=.ret
def BSn:Cd:=.seq (.reg false [o_ 0 (.move (.c .bool false))]) (BSo)
def BSp:Cd:=.skip
def BSl:Cd:=.cond (.t 59) (.seq (td [59]) (BSn)) (.seq (td [59]) (BSp))
def BSr:Cd:=td [60,61,62,63,64,65,66,67,68,69,70,71,72,73,74,75,76,77,78,79,80,81,82,83,84,85,86,87,88,89,90,91,92,93,94,95,96,97,98,99]
def BSq:Cd:=.ret
def BSk:Cd:=.seq (.seq (.reg false [ld 60 Zm 3,
    o_ 61 (.build Zm [(1,(.c (.int .i64) (3:Int)))] []),
    o_ 62 (.call (.f 13) [(.t 60),(.t 61)] [.d .bool] [] false),
    mv 63 62,
    og 64 (.load (.d Zm) (.t 5)) 63 true,
    og 65 (.build Zm [(0,(.c (.int .i64) (5:Int)))] []) 63 true,
    og 66 (.call (.f 13) [(.t 64),(.t 65)] [.d .bool] [] false) 63 true,
    o_ 67 (.pick (.t 63) (.t 66) (.c .bool false)),
    mv 68 67,
    og 69 (.load (.d Zm) (.t 7)) 68 true,
    og 70 (.build Zm [(1,(.c (.int .i64) (2:Int))),(2,(.c (.int .i64) (1:Int)))] []) 68 true,
    og 71 (.call (.f 13) [(.t 69),(.t 70)] [.d .bool] [] false) 68 true,
    o_ 72 (.pick (.t 68) (.t 71) (.c .bool false)),
    mv 73 72,
    og 74 (.fieldAddr (.d Za) 1 (.t 6)) 73 true,
    og 75 (.load (.d (.sl (.int .i64))) (.t 74)) 73 true,
    og 76 (.index (.sl (.int .i64)) (.t 75) (.c (.int .i64) (0:Int))) 73 true,
    og 77 (.load (.d (.int .i64)) (.t 76)) 73 true,
    og 78 (.bin .eql (.t 77) (.c (.int .i64) (1:Int))) 73 true,
    o_ 79 (.pick (.t 73) (.t 78) (.c .bool false)),
    mv 80 79,
    og 81 (.load (.d Zm) (.t 9)) 80 true,
    og 82 (.build Zm [(0,(.c (.int .i64) (2:Int)))] []) 80 true,
    og 83 (.call (.f 13) [(.t 81),(.t 82)] [.d .bool] [] false) 80 true,
    o_ 84 (.pick (.t 80) (.t 83) (.c .bool false)),
    mv 85 84,
    og 86 (.move (.t 11)) 85 true,
    og 87 (.index (.sl Zm) (.t 86) (.c (.int .i64) (2:Int))) 85 true,
    og 88 (.fieldAddr (.d Zm) 4 (.t 87)) 85 true,
    og 89 (.load (.d (.sl Z7)) (.t 88)) 85 true,
    og 90 (.len (.t 89)) 85 true,
    og 91 (.bin .eql (.t 90) (.c (.int .i64) (2:Int))) 85 true,
    o_ 92 (.pick (.t 85) (.t 91) (.c .bool false)),
    mv 93 92,
    og 94 (.move (.t 11)) 93 true,
    og 95 (.index (.sl Zm) (.t 94) (.c (.int .i64) (1:Int))) 93 true,
    og 96 (.fieldAddr (.d Zm) 1 (.t 95)) 93 true,
    og 97 (.load (.d (.int .i64)) (.t 96)) 93 true,
    og 98 (.bin .eql (.t 97) (.c (.int .i64) (5:Int))) 93 true,
    o_ 99 (.pick (.t 93) (.t 98) (.c .bool false)),
    mv 0 99]) (BSr)) (BSq)
def BSi:Cd:=.seq (.seq (.seq (.reg false [mv 57 11,
    le 58 57,
    bc 59 .neq 58 3]) (BSm)) (BSl)) (BSk)
def BWe:Cd:=.seq (.seq (.reg false [ld 46 Za 1,
    o_ 47 (.build Z5 [(0,(.c (.int .i64) (3:Int))),(2,(.c (.int .i64) (1:Int)))] []),
    o_ 48 (.build Yb [(1,(.t 47))] []),
    o_ 49 (.build Z5 [(0,(.c (.int .i64) (5:Int))),(2,(.c (.int .i64) (1:Int)))] []),
    o_ 50 (.build Yb [(1,(.t 49))] []),
    o_ 51 (.build Z5 [(0,(.c (.int .i64) (9:Int)))] []),
    o_ 52 (.build Yb [(0,(.c (.int .i64) (1:Int))),(1,(.t 51))] []),
    o_ 53 (.slice 14 Yb [(.t 48),(.t 50),(.t 52)]),
    o_ 54 (.call (.f 19) [(.t 46),(.t 53)] [.d Za,.d (.sl Zm)] [] false),
    mv 45 54,
    xt 55 45 0,
    xt 56 45 1,
    nb 10 15 Za,
    sr Za 10 55,
    mv 11 56]) (BSj)) (BSi)
def BWc:Cd:=.seq (.seq (.reg false [ld 40 Za 2,
    o_ 41 (.build Z5 [(0,(.c (.int .i64) (9:Int))),(2,(.c (.int .i64) (1:Int)))] []),
    o_ 42 (.call (.f 10) [(.t 40),(.c (.int .i64) (0:Int)),(.t 41)] [.d Za,.d Zm] [] false),
    mv 39 42,
    xt 43 39 0,
    xt 44 39 1,
    nb 8 12 Za,
    nb 9 13 Zm,
    sr Za 8 43,
    sr Zm 9 44]) (BSh)) (BWe)
def BWa:Cd:=.seq (.seq (.reg false [ld 34 Za 2,
    o_ 35 (.build Z5 [(0,(.c (.int .i64) (2:Int))),(4,(.c (.int .i64) (0:Int)))] []),
    o_ 36 (.call (.f 10) [(.t 34),(.c (.int .i64) (1:Int)),(.t 35)] [.d Za,.d Zm] [] false),
    mv 33 36,
    xt 37 33 0,
    xt 38 33 1,
    nb 6 10 Za,
    nb 7 11 Zm,
    sr Za 6 37,
    sr Zm 7 38]) (BWd)) (BWc)
def BV8:Cd:=.seq (.seq (.reg false [ld 28 Za 2,
    o_ 29 (.build Z5 [(0,(.c (.int .i64) (3:Int))),(2,(.c (.int .i64) (1:Int)))] []),
    o_ 30 (.call (.f 10) [(.t 28),(.c (.int .i64) (1:Int)),(.t 29)] [.d Za,.d Zm] [] false),
    mv 27 30,
    xt 31 27 0,
    xt 32 27 1,
    nb 4 8 Za,
    nb 5 9 Zm,
    sr Za 4 31,
    sr Zm 5 32]) (BWb)) (BWa)
def BV6:Cd:=.seq (.seq (.reg false [ld 22 Za 1,
    o_ 23 (.build Z5 [(0,(.c (.int .i64) (3:Int))),(2,(.c (.int .i64) (1:Int)))] []),
    o_ 24 (.call (.f 10) [(.t 22),(.c (.int .i64) (0:Int)),(.t 23)] [.d Za,.d Zm] [] false),
    mv 21 24,
    xt 25 21 0,
    xt 26 21 1,
    nb 2 6 Za,
    nb 3 7 Zm,
    sr Za 2 25,
    sr Zm 3 26]) (BV9)) (BV8)
def BV5:Cd:=.seq (.seq (.reg false [o_ 12 (.build (.arr 4 (.int .i64)) [(0,(.c (.int .i64) (1:Int))),(1,(.c (.int .i64) ((-1):Int))),(2,(.c (.int .i64) ((-1):Int))),(3,(.c (.int .i64) ((-1):Int)))] []),
    o_ 13 (.build (.arr 4 (.int .i64)) [(0,(.c (.int .i64) ((-1):Int))),(1,(.c (.int .i64) ((-1):Int))),(2,(.c (.int .i64) (0:Int))),(3,(.c (.int .i64) ((-1):Int)))] []),
    o_ 14 (.slice 0 (.arr 4 (.int .i64)) [(.t 12),(.t 13)]),
    o_ 15 (.slice 1 (.int .i64) [(.c (.int .i64) (0:Int)),(.c (.int .i64) (0:Int))]),
    o_ 16 (.slice 2 (.int .i64) [(.c (.int .i64) (5:Int)),(.c (.int .i64) (2:Int))]),
    o_ 17 (.slice 3 (.int .i64) [(.c (.int .i64) (0:Int)),(.c (.int .i64) (0:Int))]),
    o_ 18 (.slice 4 .bool [(.c .bool true),(.c .bool false)]),
    o_ 19 (.build Zx [(0,(.t 14)),(1,(.t 15)),(2,(.t 16)),(3,(.t 17)),(4,(.t 18)),(5,(.c (.int .i64) (4:Int))),(6,(.c (.int .i64) (2:Int))),(7,(.c (.int .i64) (1:Int)))] []),
    o_ 20 (.call (.f 18) [(.t 19)] [.d Za] [] false),
    nb 1 5 Za,
    sr Za 1 20]) (BV7)) (BV6)
def X4.fn:Fn:=⟨0,[.tmp 0],.seq (.reg false [o_ 0 (.move (.c .bool false))]) (BV5)⟩
def BMc:Cd:=td [4,5]
def BMe:Cd:=td [6,7,8,9,10,11,12,13,14,15,16,17,18,19,20,21,22,23,24,25,26,27,28,29,30,31,32,33,34,35,36,37,38,39,40,41,42,43,44,45,46,47,48,49,50,51]
def BMd:Cd:=.ret
def BMb:Cd:=.seq (.seq (.reg false [fa 6 Zx 0 3,
    o_ 7 (.load (.d (.sl (.arr 4 (.int .i64)))) (.t 6)),
    le 8 7,
    bc 9 .leq 8 20,
    mv 10 9,
    og 11 (.fieldAddr (.d Zx) 1 (.t 3)) 10 true,
    og 12 (.load (.d (.sl (.int .i64))) (.t 11)) 10 true,
    og 13 (.len (.t 12)) 10 true,
    og 14 (.bin .leq (.t 13) (.c (.int .i64) (20:Int))) 10 true,
    o_ 15 (.pick (.t 10) (.t 14) (.c .bool false)),
    mv 16 15,
    og 17 (.fieldAddr (.d Zx) 2 (.t 3)) 16 true,
    og 18 (.load (.d (.sl (.int .i64))) (.t 17)) 16 true,
    og 19 (.len (.t 18)) 16 true,
    og 20 (.bin .leq (.t 19) (.c (.int .i64) (20:Int))) 16 true,
    o_ 21 (.pick (.t 16) (.t 20) (.c .bool false)),
    mv 22 21,
    og 23 (.fieldAddr (.d Zx) 3 (.t 3)) 22 true,
    og 24 (.load (.d (.sl (.int .i64))) (.t 23)) 22 true,
    og 25 (.len (.t 24)) 22 true,
    og 26 (.bin .leq (.t 25) (.c (.int .i64) (40:Int))) 22 true,
    o_ 27 (.pick (.t 22) (.t 26) (.c .bool false)),
    mv 28 27,
    og 29 (.fieldAddr (.d Zx) 4 (.t 3)) 28 true,
    og 30 (.load (.d (.sl .bool)) (.t 29)) 28 true,
    og 31 (.len (.t 30)) 28 true,
    og 32 (.bin .leq (.t 31) (.c (.int .i64) (40:Int))) 28 true,
    o_ 33 (.pick (.t 28) (.t 32) (.c .bool false)),
    mv 34 33,
    og 35 (.fieldAddr (.d Za) 1 (.t 1)) 34 true,
    og 36 (.load (.d (.sl (.int .i64))) (.t 35)) 34 true,
    og 37 (.len (.t 36)) 34 true,
    og 38 (.bin .leq (.t 37) (.c (.int .i64) (40:Int))) 34 true,
    o_ 39 (.pick (.t 34) (.t 38) (.c .bool false)),
    mv 40 39,
    og 41 (.fieldAddr (.d Za) 2 (.t 1)) 40 true,
    og 42 (.load (.d (.sl (.int .i64))) (.t 41)) 40 true,
    og 43 (.len (.t 42)) 40 true,
    og 44 (.bin .leq (.t 43) (.c (.int .i64) (40:Int))) 40 true,
    o_ 45 (.pick (.t 40) (.t 44) (.c .bool false)),
    mv 46 45,
    og 47 (.fieldAddr (.d Za) 3 (.t 1)) 46 true,
    og 48 (.load (.d (.sl Zb)) (.t 47)) 46 true,
    og 49 (.len (.t 48)) 46 true,
    og 50 (.bin .leq (.t 49) (.c (.int .i64) (40:Int))) 46 true,
    o_ 51 (.pick (.t 46) (.t 50) (.c .bool false)),
    mv 2 51]) (BMe)) (BMd)
def BMa:Cd:=.seq (.seq (.reg false [fa 4 Za 0 1,
    ld 5 Zx 4,
    nb 3 1 Zx,
    sr Zx 3 5]) (BMc)) (BMb)
def X6.fn:Fn:=⟨1,[.tmp 2],.seq (.reg false [bx 1 0 0,
    o_ 2 (.move (.c .bool false))]) (BMa)⟩
def BNi:Cd:=td [5,6,7,8,9,10,11]
def BNh:Cd:=.ret
def BNg:Cd:=.seq (.seq (.reg false [mv 5 0,
    bc 6 .geq 5 0,
    mv 7 6,
    og 8 (.move (.t 0)) 7 true,
    og 9 (.move (.t 1)) 7 true,
    og 10 (.bin .lss (.t 8) (.t 9)) 7 true,
    o_ 11 (.pick (.t 7) (.t 10) (.c .bool false)),
    mv 4 11]) (BNi)) (BNh)
def Z9.fn:Fn:=⟨2,[.tmp 4],.seq (.reg false [o_ 4 (.move (.c .bool false))]) (BNg)⟩
def BNl:Cd:=td [3,4,5,6,7,8]
def BNk:Cd:=.ret
def BNj:Cd:=.seq (.seq (.reg false [mv 3 0,
    o_ 4 (.bin .leq (.c (.int .i64) (0:Int)) (.t 3)),
    mv 5 4,
    og 6 (.move (.t 0)) 5 true,
    og 7 (.bin .leq (.t 6) (.c (.int .i64) (1073741824:Int))) 5 true,
    o_ 8 (.pick (.t 5) (.t 7) (.c .bool false)),
    mv 2 8]) (BNl)) (BNk)
def Yc.fn:Fn:=⟨1,[.tmp 2],.seq (.reg false [o_ 2 (.move (.c .bool false))]) (BNj)⟩
def BM8:Cd:=td [10,11,12]
def BNb:Cd:=td [13,14,15,16,17,18,19,20,21,22,23,24,25,26,27,28,29,30,31,32,33,34,35,36,37,38,39,40,41,42,43,44,45,46,47,48,49,50,51,52,53]
def BNd:Cd:=.ret
def BNc:Cd:=.seq (.reg false [o_ 2 (.move (.c .bool false))]) (BNd)
def BNe:Cd:=.skip
def BNa:Cd:=.cond (.t 54) (.seq (td [54]) (BNc)) (.seq (td [54]) (BNe))
def BBo:Cd:=td [55,56,57,58,59,60,61,62,63,64,65,66,67,68,69]
def BBq:Cd:=.ret
def BBp:Cd:=.seq (.reg false [o_ 2 (.move (.c .bool false))]) (BBq)
def BBr:Cd:=.skip
def BBn:Cd:=.cond (.t 70) (.seq (td [70]) (BBp)) (.seq (td [70]) (BBr))
def BBv:Cd:=td [71,72]
def BBw:Cd:=.skip
def BCw:Cd:=.exit 0
def BBu:Cd:=.cond (.t 73) (.seq (td [73]) (BBw)) (.seq (td [73]) (BCw))
def BB1:Cd:=td [76]
def BB2:Cd:=.skip
def BCa:Cd:=.exit 2
def BB0:Cd:=.cond (.t 77) (.seq (td [77]) (BB2)) (.seq (td [77]) (BCa))
def BB5:Cd:=td [80,81,82,83,84,85,86,87,88,89,90,91,92,93,94,95,96,97,98]
def BB7:Cd:=.ret
def BB6:Cd:=.seq (.reg false [o_ 2 (.move (.c .bool false))]) (BB7)
def BB8:Cd:=.skip
def BB4:Cd:=.cond (.t 99) (.seq (td [99]) (BB6)) (.seq (td [99]) (BB8))
def BB9:Cd:=td [78,79]
def BB3:Cd:=.seq (.reg false [mv 78 5,
    bc 79 .add 78 1,
    mv 5 79]) (BB9)
def BBz:Cd:=.seq (.block 3 (.seq (.seq (.reg false [fa 80 Zx 0 1,
    o_ 81 (.load (.d (.sl (.arr 4 (.int .i64)))) (.t 80)),
    mv 82 4,
    mv 83 5,
    o_ 84 (.index (.sl (.arr 4 (.int .i64))) (.t 81) (.t 82)),
    o_ 85 (.index (.arr 4 (.int .i64)) (.t 84) (.t 83)),
    ld 86 (.int .i64) 85,
    o_ 87 (.bin .neq (.t 86) (.c (.int .i64) ((-1):Int))),
    mv 88 87,
    og 89 (.fieldAddr (.d Zx) 0 (.t 1)) 88 true,
    og 90 (.load (.d (.sl (.arr 4 (.int .i64)))) (.t 89)) 88 true,
    og 91 (.move (.t 4)) 88 true,
    og 92 (.move (.t 5)) 88 true,
    og 93 (.index (.sl (.arr 4 (.int .i64))) (.t 90) (.t 91)) 88 true,
    og 94 (.index (.arr 4 (.int .i64)) (.t 93) (.t 92)) 88 true,
    og 95 (.load (.d (.int .i64)) (.t 94)) 88 true,
    og 96 (.move (.t 3)) 88 true,
    og 97 (.call (.f 37) [(.t 95),(.t 96)] [.d .bool] [] false) 88 true,
    og 98 (.not (.t 97)) 88 true,
    o_ 99 (.pick (.t 88) (.t 98) (.c .bool false))]) (BB5)) (BB4))) (BB3)
def BBy:Cd:=.tidy [] [] [] (some 1)
def AKm:Cd:=.seq (.seq (.seq (.seq (.reg false [mv 76 5,
    bc 77 .lss 76 4]) (BB1)) (BB0)) (BBz)) (BBy)
def BBx:Cd:=.block 2 (.loop (AKm))
def BCg:Cd:=td [100,101,102,103]
def BCh:Cd:=.skip
def BCp:Cd:=.exit 4
def BCf:Cd:=.cond (.t 104) (.seq (td [104]) (BCh)) (.seq (td [104]) (BCp))
def BCk:Cd:=td [107,108,109,110,111,112]
def BCm:Cd:=td [114,115]
def BCl:Cd:=.seq (.reg false [mv 114 6,
    bc 115 .add 114 1,
    mv 6 115]) (BCm)
def BCo:Cd:=.skip
def BCj:Cd:=.cond (.t 113) (.seq (td [113]) (BCl)) (.seq (td [113]) (BCo))
def BCn:Cd:=td [105,106]
def BCi:Cd:=.seq (.reg false [mv 105 7,
    bc 106 .add 105 1,
    mv 7 106]) (BCn)
def BCe:Cd:=.seq (.block 5 (.seq (.seq (.reg false [fa 107 Zx 3 1,
    o_ 108 (.load (.d (.sl (.int .i64))) (.t 107)),
    mv 109 7,
    ix 110 (.sl (.int .i64)) 108 109,
    ld 111 (.int .i64) 110,
    mv 112 4,
    bi 113 .eql 111 112]) (BCk)) (BCj))) (BCi)
def BCd:Cd:=.tidy [] [] [] (some 1)
def AKo:Cd:=.seq (.seq (.seq (.seq (.reg false [mv 100 7,
    fa 101 Zx 3 1,
    o_ 102 (.load (.d (.sl (.int .i64))) (.t 101)),
    le 103 102,
    bi 104 .lss 100 103]) (BCg)) (BCf)) (BCe)) (BCd)
def BCc:Cd:=.block 4 (.loop (AKo))
def BCr:Cd:=td [116,117,118]
def BCt:Cd:=.ret
def BCs:Cd:=.seq (.reg false [o_ 2 (.move (.c .bool false))]) (BCt)
def BCu:Cd:=.skip
def BCq:Cd:=.cond (.t 119) (.seq (td [119]) (BCs)) (.seq (td [119]) (BCu))
def AKn:Cd:=.seq (.seq (.reg false [mv 116 6,
    fa 117 Zx 5 1,
    ld 118 (.int .i64) 117,
    bi 119 .gtr 116 118]) (BCr)) (BCq)
def BCb:Cd:=.seq (.seq (.reg false [ci 7 0]) (BCc)) (AKn)
def AKl:Cd:=.seq (.reg false [ci 6 0]) (BCb)
def BCv:Cd:=td [74,75]
def Mx:Cd:=.seq (.reg false [mv 74 4,
    bc 75 .add 74 1,
    mv 4 75]) (BCv)
def BBt:Cd:=.seq (.block 1 (.seq (.seq (.reg false [ci 5 0]) (BBx)) (AKl))) (Mx)
def Mw:Cd:=.tidy [5,6,7] [] [] (some 1)
def Ot:Cd:=.seq (.seq (.seq (.seq (.reg false [mv 71 4,
    mv 72 3,
    bi 73 .lss 71 72]) (BBv)) (BBu)) (BBt)) (Mw)
def BBs:Cd:=.block 0 (.loop (Ot))
def BC1:Cd:=td [120,121,122,123]
def BC2:Cd:=.skip
def BDa:Cd:=.exit 6
def BC0:Cd:=.cond (.t 124) (.seq (td [124]) (BC2)) (.seq (td [124]) (BDa))
def BC5:Cd:=td [127,128,129,130,131,132,133,134,135,136,137,138,139,140,141,142]
def BC7:Cd:=.ret
def BC6:Cd:=.seq (.reg false [o_ 2 (.move (.c .bool false))]) (BC7)
def BC8:Cd:=.skip
def BC4:Cd:=.cond (.t 143) (.seq (td [143]) (BC6)) (.seq (td [143]) (BC8))
def BC9:Cd:=td [125,126]
def BC3:Cd:=.seq (.reg false [mv 125 8,
    bc 126 .add 125 1,
    mv 8 126]) (BC9)
def BCz:Cd:=.seq (.block 7 (.seq (.seq (.reg false [fa 127 Zx 1 1,
    o_ 128 (.load (.d (.sl (.int .i64))) (.t 127)),
    mv 129 8,
    ix 130 (.sl (.int .i64)) 128 129,
    ld 131 (.int .i64) 130,
    mv 132 3,
    o_ 133 (.call (.f 37) [(.t 131),(.t 132)] [.d .bool] [] false),
    nt 134 133,
    mv 135 134,
    og 136 (.fieldAddr (.d Zx) 2 (.t 1)) 135 false,
    og 137 (.load (.d (.sl (.int .i64))) (.t 136)) 135 false,
    og 138 (.move (.t 8)) 135 false,
    og 139 (.index (.sl (.int .i64)) (.t 137) (.t 138)) 135 false,
    og 140 (.load (.d (.int .i64)) (.t 139)) 135 false,
    og 141 (.call (.f 38) [(.t 140)] [.d .bool] [] false) 135 false,
    og 142 (.not (.t 141)) 135 false,
    o_ 143 (.pick (.t 135) (.c .bool true) (.t 142))]) (BC5)) (BC4))) (BC3)
def BCy:Cd:=.tidy [] [] [] (some 1)
def AKq:Cd:=.seq (.seq (.seq (.seq (.reg false [mv 120 8,
    fa 121 Zx 1 1,
    o_ 122 (.load (.d (.sl (.int .i64))) (.t 121)),
    le 123 122,
    bi 124 .lss 120 123]) (BC1)) (BC0)) (BCz)) (BCy)
def BCx:Cd:=.block 6 (.loop (AKq))
def BDf:Cd:=td [144,145,146,147]
def BDg:Cd:=.skip
def BDo:Cd:=.exit 8
def BDe:Cd:=.cond (.t 148) (.seq (td [148]) (BDg)) (.seq (td [148]) (BDo))
def BDj:Cd:=td [151,152,153,154,155,156,157]
def BDl:Cd:=.ret
def BDk:Cd:=.seq (.reg false [o_ 2 (.move (.c .bool false))]) (BDl)
def BDm:Cd:=.skip
def BDi:Cd:=.cond (.t 158) (.seq (td [158]) (BDk)) (.seq (td [158]) (BDm))
def BDn:Cd:=td [149,150]
def BDh:Cd:=.seq (.reg false [mv 149 9,
    bc 150 .add 149 1,
    mv 9 150]) (BDn)
def BDd:Cd:=.seq (.block 9 (.seq (.seq (.reg false [fa 151 Zx 3 1,
    o_ 152 (.load (.d (.sl (.int .i64))) (.t 151)),
    mv 153 9,
    ix 154 (.sl (.int .i64)) 152 153,
    ld 155 (.int .i64) 154,
    mv 156 3,
    o_ 157 (.call (.f 37) [(.t 155),(.t 156)] [.d .bool] [] false),
    nt 158 157]) (BDj)) (BDi))) (BDh)
def BDc:Cd:=.tidy [] [] [] (some 1)
def AKs:Cd:=.seq (.seq (.seq (.seq (.reg false [mv 144 9,
    fa 145 Zx 3 1,
    o_ 146 (.load (.d (.sl (.int .i64))) (.t 145)),
    le 147 146,
    bi 148 .lss 144 147]) (BDf)) (BDe)) (BDd)) (BDc)
def BDb:Cd:=.block 8 (.loop (AKs))
def BDp:Cd:=.ret
def AKr:Cd:=.seq (.reg false [o_ 2 (.move (.c .bool true))]) (BDp)
def AKp:Cd:=.seq (.seq (.reg false [ci 9 0]) (BDb)) (AKr)
def Vl:Cd:=.seq (.seq (.reg false [ci 8 0]) (BCx)) (AKp)
def BNf:Cd:=.seq (.seq (.reg false [ci 4 0]) (BBs)) (Vl)
def BM9:Cd:=.seq (.seq (.seq (.reg false [fa 55 Zx 5 1,
    ld 56 (.int .i64) 55,
    o_ 57 (.call (.f 37) [(.t 56),(.c (.int .i64) (65:Int))] [.d .bool] [] false),
    nt 58 57,
    mv 59 58,
    og 60 (.fieldAddr (.d Zx) 6 (.t 1)) 59 false,
    og 61 (.load (.d (.int .i64)) (.t 60)) 59 false,
    og 62 (.call (.f 37) [(.t 61),(.c (.int .i64) (65:Int))] [.d .bool] [] false) 59 false,
    og 63 (.not (.t 62)) 59 false,
    o_ 64 (.pick (.t 59) (.c .bool true) (.t 63)),
    mv 65 64,
    og 66 (.fieldAddr (.d Zx) 7 (.t 1)) 65 false,
    og 67 (.load (.d (.int .i64)) (.t 66)) 65 false,
    og 68 (.call (.f 37) [(.t 67),(.c (.int .i64) (65:Int))] [.d .bool] [] false) 65 false,
    og 69 (.not (.t 68)) 65 false,
    o_ 70 (.pick (.t 65) (.c .bool true) (.t 69))]) (BBo)) (BBn)) (BNf)
def BM7:Cd:=.seq (.seq (.seq (.reg false [mv 13 3,
    bc 14 .lss 13 1,
    mv 15 14,
    og 16 (.move (.t 3)) 15 false,
    og 17 (.bin .gtr (.t 16) (.c (.int .i64) (8:Int))) 15 false,
    o_ 18 (.pick (.t 15) (.c .bool true) (.t 17)),
    mv 19 18,
    og 20 (.fieldAddr (.d Zx) 1 (.t 1)) 19 false,
    og 21 (.load (.d (.sl (.int .i64))) (.t 20)) 19 false,
    og 22 (.len (.t 21)) 19 false,
    og 23 (.bin .lss (.t 22) (.c (.int .i64) (1:Int))) 19 false,
    o_ 24 (.pick (.t 19) (.c .bool true) (.t 23)),
    mv 25 24,
    og 26 (.fieldAddr (.d Zx) 1 (.t 1)) 25 false,
    og 27 (.load (.d (.sl (.int .i64))) (.t 26)) 25 false,
    og 28 (.len (.t 27)) 25 false,
    og 29 (.bin .gtr (.t 28) (.c (.int .i64) (6:Int))) 25 false,
    o_ 30 (.pick (.t 25) (.c .bool true) (.t 29)),
    mv 31 30,
    og 32 (.fieldAddr (.d Zx) 2 (.t 1)) 31 false,
    og 33 (.load (.d (.sl (.int .i64))) (.t 32)) 31 false,
    og 34 (.len (.t 33)) 31 false,
    og 35 (.fieldAddr (.d Zx) 1 (.t 1)) 31 false,
    og 36 (.load (.d (.sl (.int .i64))) (.t 35)) 31 false,
    og 37 (.len (.t 36)) 31 false,
    og 38 (.bin .neq (.t 34) (.t 37)) 31 false,
    o_ 39 (.pick (.t 31) (.c .bool true) (.t 38)),
    mv 40 39,
    og 41 (.fieldAddr (.d Zx) 3 (.t 1)) 40 false,
    og 42 (.load (.d (.sl (.int .i64))) (.t 41)) 40 false,
    og 43 (.len (.t 42)) 40 false,
    og 44 (.bin .gtr (.t 43) (.c (.int .i64) (16:Int))) 40 false,
    o_ 45 (.pick (.t 40) (.c .bool true) (.t 44)),
    mv 46 45,
    og 47 (.fieldAddr (.d Zx) 4 (.t 1)) 46 false,
    og 48 (.load (.d (.sl .bool)) (.t 47)) 46 false,
    og 49 (.len (.t 48)) 46 false,
    og 50 (.fieldAddr (.d Zx) 3 (.t 1)) 46 false,
    og 51 (.load (.d (.sl (.int .i64))) (.t 50)) 46 false,
    og 52 (.len (.t 51)) 46 false,
    og 53 (.bin .neq (.t 49) (.t 52)) 46 false,
    o_ 54 (.pick (.t 46) (.c .bool true) (.t 53))]) (BNb)) (BNa)) (BM9)
def BM6:Cd:=.seq (.seq (.reg false [fa 10 Zx 0 1,
    o_ 11 (.load (.d (.sl (.arr 4 (.int .i64)))) (.t 10)),
    le 12 11,
    mv 3 12]) (BM8)) (BM7)
def Zc.fn:Fn:=⟨1,[.tmp 2],.seq (.reg false [bx 1 0 0,
    o_ 2 (.move (.c .bool false))]) (BM6)⟩
def BNr:Cd:=td [6,7]
def BNs:Cd:=.skip
def BDy:Cd:=.exit 0
def BNq:Cd:=.cond (.t 8) (.seq (td [8]) (BNs)) (.seq (td [8]) (BDy))
def BDq:Cd:=td [9,10]
def BDt:Cd:=td [11]
def BDv:Cd:=.ret
def BDu:Cd:=.seq (.reg false [ci 4 99]) (BDv)
def BDw:Cd:=.skip
def BDs:Cd:=.cond (.t 12) (.seq (td [12]) (BDu)) (.seq (td [12]) (BDw))
def BDx:Cd:=td [13,14,15,16,17,18]
def BDr:Cd:=.seq (.reg false [fa 13 Za 3 2,
    ld 14 (.sl Zb) 13,
    fa 15 Zb 1 3,
    ld 16 (.int .i64) 15,
    ix 17 (.sl Zb) 14 16,
    ld 18 Zb 17,
    sr Zb 3 18]) (BDx)
def BNt:Cd:=.seq (.seq (.seq (.reg false [mv 11 5,
    bc 12 .gtr 11 50]) (BDt)) (BDs)) (BDr)
def BNp:Cd:=.block 1 (.seq (.seq (.reg false [mv 9 5,
    bc 10 .add 9 1,
    mv 5 10]) (BDq)) (BNt))
def BNo:Cd:=.tidy [] [] [] (some 2)
def ARk:Cd:=.seq (.seq (.seq (.seq (.reg false [fa 6 Zb 0 3,
    ld 7 (.int .i64) 6,
    bc 8 .eql 7 2]) (BNr)) (BNq)) (BNp)) (BNo)
def BD0:Cd:=td [19]
def BDz:Cd:=.ret
def ARj:Cd:=.seq (.seq (.reg false [mv 19 5,
    mv 4 19]) (BD0)) (BDz)
def BNn:Cd:=.seq (.block 0 (.loop (ARk))) (ARj)
def BNm:Cd:=.seq (.reg false [ci 5 0]) (BNn)
def Z0.fn:Fn:=⟨2,[.tmp 4],.seq (.reg false [bx 2 0 0,
    bx 3 1 1,
    ci 4 0]) (BNm)⟩
def BN0:Cd:=td [7,8,9,10]
def BN1:Cd:=.skip
def BD8:Cd:=.exit 0
def BNz:Cd:=.cond (.t 11) (.seq (td [11]) (BN1)) (.seq (td [11]) (BD8))
def BD3:Cd:=td [14,15,16,17,18,19]
def BD5:Cd:=td [21,22]
def BD4:Cd:=.seq (.reg false [mv 21 5,
    bc 22 .add 21 1,
    mv 5 22]) (BD5)
def BD7:Cd:=.skip
def BD2:Cd:=.cond (.t 20) (.seq (td [20]) (BD4)) (.seq (td [20]) (BD7))
def BD6:Cd:=td [12,13]
def BD1:Cd:=.seq (.reg false [mv 12 6,
    bc 13 .add 12 1,
    mv 6 13]) (BD6)
def BNy:Cd:=.seq (.block 1 (.seq (.seq (.reg true [od 14 (.fieldAddr (.d Za) 3 (.t 2)) [0] [],
    od 15 (.load (.d (.sl Zb)) (.t 14)) [0] [],
    mv 16 6,
    ix 17 (.sl Zb) 15 16,
    ld 18 Zb 17,
    od 19 (.load (.d Zb) (.t 3)) [1] [],
    o_ 20 (.eqs Zb false (.t 18) (.t 19))]) (BD3)) (BD2))) (BD1)
def BNx:Cd:=.tidy [] [] [] (some 2)
def ARm:Cd:=.seq (.seq (.seq (.seq (.reg false [mv 7 6,
    fa 8 Za 3 2,
    ld 9 (.sl Zb) 8,
    le 10 9,
    bi 11 .lss 7 10]) (BN0)) (BNz)) (BNy)) (BNx)
def BNw:Cd:=.block 0 (.loop (ARm))
def BEa:Cd:=td [23]
def BD9:Cd:=.ret
def ARl:Cd:=.seq (.seq (.reg false [mv 23 5,
    mv 4 23]) (BEa)) (BD9)
def BNv:Cd:=.seq (.seq (.reg false [ci 6 0]) (BNw)) (ARl)
def BNu:Cd:=.seq (.reg false [ci 5 0]) (BNv)
def Z2.fn:Fn:=⟨2,[.tmp 4],.seq (.reg false [bx 2 0 0,
    bx 3 1 1,
    ci 4 0]) (BNu)⟩
def BN4:Cd:=td [5,6,7,8,9,10,11,12,13,14,15,16,17,18]
def BN3:Cd:=.ret
def BN2:Cd:=.seq (.seq (.reg false [fa 5 Za 0 2,
    fa 6 Zx 5 5,
    ld 7 (.int .i64) 6,
    fa 8 Za 0 2,
    fa 9 Zx 6 8,
    ld 10 (.int .i64) 9,
    fa 11 Za 0 2,
    fa 12 Zx 7 11,
    ld 13 (.int .i64) 12,
    o_ 14 (.slice 2 (.int .i64) [(.t 7),(.t 10),(.t 13)]),
    fa 15 Zb 0 3,
    ld 16 (.int .i64) 15,
    ix 17 (.sl (.int .i64)) 14 16,
    ld 18 (.int .i64) 17,
    mv 4 18]) (BN4)) (BN3)
def Ye.fn:Fn:=⟨2,[.tmp 4],.seq (.reg false [bx 2 0 0,
    bx 3 1 1,
    ci 4 0]) (BN2)⟩
def BK1:Cd:=td [9,10]
def BK4:Cd:=td [11,12,13,14,15,16,17,18,19,20,21,22,23,24,25,26,27,28,29,30,31,32,33,34,35,36,37,38,39]
def BK6:Cd:=.ret
def BK5:Cd:=.seq (.reg false [o_ 2 (.move (.c .bool false))]) (BK6)
def BK7:Cd:=.skip
def BK3:Cd:=.cond (.t 40) (.seq (td [40]) (BK5)) (.seq (td [40]) (BK7))
def AW8:Cd:=td [41,42,43,44]
def AW9:Cd:=.skip
def AXh:Cd:=.exit 0
def AW7:Cd:=.cond (.t 45) (.seq (td [45]) (AW9)) (.seq (td [45]) (AXh))
def AXc:Cd:=td [48,49,50,51,52,53,54,55,56,57,58,59,60,61,62,63,64,65]
def AXe:Cd:=.ret
def AXd:Cd:=.seq (.reg false [o_ 2 (.move (.c .bool false))]) (AXe)
def AXf:Cd:=.skip
def AXb:Cd:=.cond (.t 66) (.seq (td [66]) (AXd)) (.seq (td [66]) (AXf))
def AXg:Cd:=td [46,47]
def AXa:Cd:=.seq (.reg false [mv 46 4,
    bc 47 .add 46 1,
    mv 4 47]) (AXg)
def AW6:Cd:=.seq (.block 1 (.seq (.seq (.reg true [od 48 (.fieldAddr (.d Za) 1 (.t 1)) [0] [],
    od 49 (.load (.d (.sl (.int .i64))) (.t 48)) [0] [],
    mv 50 4,
    ix 51 (.sl (.int .i64)) 49 50,
    ld 52 (.int .i64) 51,
    od 53 (.fieldAddr (.d Zx) 0 (.t 3)) [1] [],
    od 54 (.load (.d (.sl (.arr 4 (.int .i64)))) (.t 53)) [1] [],
    le 55 54,
    o_ 56 (.call (.f 37) [(.t 52),(.t 55)] [.d .bool] [] false),
    nt 57 56,
    mv 58 57,
    ogd 59 (.fieldAddr (.d Za) 2 (.t 1)) 58 false [0],
    ogd 60 (.load (.d (.sl (.int .i64))) (.t 59)) 58 false [0],
    og 61 (.move (.t 4)) 58 false,
    og 62 (.index (.sl (.int .i64)) (.t 60) (.t 61)) 58 false,
    og 63 (.load (.d (.int .i64)) (.t 62)) 58 false,
    og 64 (.call (.f 38) [(.t 63)] [.d .bool] [] false) 58 false,
    og 65 (.not (.t 64)) 58 false,
    o_ 66 (.pick (.t 58) (.c .bool true) (.t 65))]) (AXc)) (AXb))) (AXa)
def AW5:Cd:=.tidy [] [] [] (some 2)
def AKc:Cd:=.seq (.seq (.seq (.seq (.reg false [mv 41 4,
    fa 42 Za 1 1,
    o_ 43 (.load (.d (.sl (.int .i64))) (.t 42)),
    le 44 43,
    bi 45 .lss 41 44]) (AW8)) (AW7)) (AW6)) (AW5)
def AW4:Cd:=.block 0 (.loop (AKc))
def AXm:Cd:=td [67,68,69,70]
def AXn:Cd:=.skip
def AXz:Cd:=.exit 2
def AXl:Cd:=.cond (.t 71) (.seq (td [71]) (AXn)) (.seq (td [71]) (AXz))
def AXq:Cd:=td [74,75,76,77,78]
def AXs:Cd:=td [79,80,81,82,83,84,85,86,87,88,89,90,91,92,93,94,95,96,97,98,99,100,101,102,103,104,105,106,107,108,109,110,111,112,113,114,115,116,117,118,119,120,121,122,123]
def AXu:Cd:=td [124]
def AXy:Cd:=.ret
def AXx:Cd:=.seq (.reg false [o_ 2 (.move (.c .bool false))]) (AXy)
def AXv:Cd:=.skip
def AXt:Cd:=.cond (.t 125) (.seq (td [125]) (AXx)) (.seq (td [125]) (AXv))
def AXr:Cd:=.seq (.seq (.reg false [mv 124 7,
    nt 125 124]) (AXu)) (AXt)
def AXp:Cd:=.seq (.seq (.reg false [fa 79 Zb 0 6,
    ld 80 (.int .i64) 79,
    bc 81 .eql 80 0,
    mv 82 81,
    og 83 (.fieldAddr (.d Zb) 1 (.t 6)) 82 true,
    og 84 (.load (.d (.int .i64)) (.t 83)) 82 true,
    og 85 (.fieldAddr (.d Zx) 0 (.t 3)) 82 true,
    og 86 (.load (.d (.sl (.arr 4 (.int .i64)))) (.t 85)) 82 true,
    og 87 (.len (.t 86)) 82 true,
    og 88 (.call (.f 37) [(.t 84),(.t 87)] [.d .bool] [] false) 82 true,
    o_ 89 (.pick (.t 82) (.t 88) (.c .bool false)),
    mv 90 89,
    og 91 (.fieldAddr (.d Zb) 0 (.t 6)) 90 false,
    og 92 (.load (.d (.int .i64)) (.t 91)) 90 false,
    og 93 (.bin .eql (.t 92) (.c (.int .i64) (1:Int))) 90 false,
    og 94 (.move (.t 93)) 90 false,
    og 95 (.fieldAddr (.d Zb) 1 (.t 6)) 94 true,
    og 96 (.load (.d (.int .i64)) (.t 95)) 94 true,
    og 97 (.fieldAddr (.d Zx) 1 (.t 3)) 94 true,
    og 98 (.load (.d (.sl (.int .i64))) (.t 97)) 94 true,
    og 99 (.len (.t 98)) 94 true,
    og 100 (.call (.f 37) [(.t 96),(.t 99)] [.d .bool] [] false) 94 true,
    og 101 (.pick (.t 94) (.t 100) (.c .bool false)) 90 false,
    o_ 102 (.pick (.t 90) (.c .bool true) (.t 101)),
    mv 103 102,
    og 104 (.fieldAddr (.d Zb) 0 (.t 6)) 103 false,
    og 105 (.load (.d (.int .i64)) (.t 104)) 103 false,
    og 106 (.bin .eql (.t 105) (.c (.int .i64) (2:Int))) 103 false,
    og 107 (.move (.t 106)) 103 false,
    og 108 (.fieldAddr (.d Zb) 1 (.t 6)) 107 true,
    og 109 (.load (.d (.int .i64)) (.t 108)) 107 true,
    og 110 (.fieldAddr (.d Zx) 3 (.t 3)) 107 true,
    og 111 (.load (.d (.sl (.int .i64))) (.t 110)) 107 true,
    og 112 (.len (.t 111)) 107 true,
    og 113 (.call (.f 37) [(.t 109),(.t 112)] [.d .bool] [] false) 107 true,
    og 114 (.pick (.t 107) (.t 113) (.c .bool false)) 103 false,
    og 115 (.move (.t 114)) 103 false,
    og 116 (.fieldAddr (.d Zx) 4 (.t 3)) 115 true,
    og 117 (.load (.d (.sl .bool)) (.t 116)) 115 true,
    og 118 (.fieldAddr (.d Zb) 1 (.t 6)) 115 true,
    og 119 (.load (.d (.int .i64)) (.t 118)) 115 true,
    og 120 (.index (.sl .bool) (.t 117) (.t 119)) 115 true,
    og 121 (.load (.d .bool) (.t 120)) 115 true,
    og 122 (.pick (.t 115) (.t 121) (.c .bool false)) 103 false,
    o_ 123 (.pick (.t 103) (.c .bool true) (.t 122)),
    mv 7 123]) (AXs)) (AXr)
def AXw:Cd:=td [72,73]
def AXo:Cd:=.seq (.reg false [mv 72 5,
    bc 73 .add 72 1,
    mv 5 73]) (AXw)
def AXk:Cd:=.seq (.block 3 (.seq (.seq (.reg false [fa 74 Za 3 1,
    ld 75 (.sl Zb) 74,
    mv 76 5,
    ix 77 (.sl Zb) 75 76,
    ld 78 Zb 77,
    nb 6 2 Zb,
    sr Zb 6 78]) (AXq)) (AXp))) (AXo)
def AXj:Cd:=.tidy [6,7] [] [] (some 2)
def AKe:Cd:=.seq (.seq (.seq (.seq (.reg false [mv 67 5,
    fa 68 Za 3 1,
    ld 69 (.sl Zb) 68,
    le 70 69,
    bi 71 .lss 67 70]) (AXm)) (AXl)) (AXk)) (AXj)
def AXi:Cd:=.block 2 (.loop (AKe))
def AX4:Cd:=td [126,127,128,129]
def AX5:Cd:=.skip
def AYd:Cd:=.exit 4
def AX3:Cd:=.cond (.t 130) (.seq (td [130]) (AX5)) (.seq (td [130]) (AYd))
def AX8:Cd:=td [133,134,135,136,137,138,139,140,141,142,143,144,145,146,147,148,149,150,151,152,153,154,155,156]
def AYa:Cd:=.ret
def AX9:Cd:=.seq (.reg false [o_ 2 (.move (.c .bool false))]) (AYa)
def AYb:Cd:=.skip
def AX7:Cd:=.cond (.t 157) (.seq (td [157]) (AX9)) (.seq (td [157]) (AYb))
def AYc:Cd:=td [131,132]
def AX6:Cd:=.seq (.reg false [mv 131 8,
    bc 132 .add 131 1,
    mv 8 132]) (AYc)
def AX2:Cd:=.seq (.block 5 (.seq (.seq (.reg true [od 133 (.load (.d Za) (.t 1)) [0] [],
    od 134 (.fieldAddr (.d Za) 3 (.t 1)) [0] [],
    od 135 (.load (.d (.sl Zb)) (.t 134)) [0] [],
    mv 136 8,
    ix 137 (.sl Zb) 135 136,
    ld 138 Zb 137,
    o_ 139 (.call (.f 39) [(.t 133),(.t 138)] [.d (.int .i64)] [] false),
    bc 140 .gtr 139 4,
    mv 141 140,
    ogd 142 (.load (.d Za) (.t 1)) 141 false [0],
    ogd 143 (.fieldAddr (.d Za) 3 (.t 1)) 141 false [0],
    ogd 144 (.load (.d (.sl Zb)) (.t 143)) 141 false [0],
    og 145 (.move (.t 8)) 141 false,
    og 146 (.index (.sl Zb) (.t 144) (.t 145)) 141 false,
    og 147 (.load (.d Zb) (.t 146)) 141 false,
    og 148 (.call (.f 40) [(.t 142),(.t 147)] [.d (.int .i64)] [] false) 141 false,
    ogd 149 (.load (.d Za) (.t 1)) 141 false [0],
    ogd 150 (.fieldAddr (.d Za) 3 (.t 1)) 141 false [0],
    ogd 151 (.load (.d (.sl Zb)) (.t 150)) 141 false [0],
    og 152 (.move (.t 8)) 141 false,
    og 153 (.index (.sl Zb) (.t 151) (.t 152)) 141 false,
    og 154 (.load (.d Zb) (.t 153)) 141 false,
    og 155 (.call (.f 41) [(.t 149),(.t 154)] [.d (.int .i64)] [] false) 141 false,
    og 156 (.bin .gtr (.t 148) (.t 155)) 141 false,
    o_ 157 (.pick (.t 141) (.c .bool true) (.t 156))]) (AX8)) (AX7))) (AX6)
def AX1:Cd:=.tidy [] [] [] (some 2)
def AKg:Cd:=.seq (.seq (.seq (.seq (.reg false [mv 126 8,
    fa 127 Za 3 1,
    ld 128 (.sl Zb) 127,
    le 129 128,
    bi 130 .lss 126 129]) (AX4)) (AX3)) (AX2)) (AX1)
def AX0:Cd:=.block 4 (.loop (AKg))
def AYe:Cd:=.ret
def AKf:Cd:=.seq (.reg false [o_ 2 (.move (.c .bool true))]) (AYe)
def AKd:Cd:=.seq (.seq (.reg false [ci 8 0]) (AX0)) (AKf)
def ARa:Cd:=.seq (.seq (.reg false [ci 5 0]) (AXi)) (AKd)
def BK2:Cd:=.seq (.seq (.reg false [ci 4 0]) (AW4)) (ARa)
def BK0:Cd:=.seq (.seq (.seq (.reg false [ld 11 Zx 3,
    o_ 12 (.call (.f 36) [(.t 11)] [.d .bool] [] false),
    nt 13 12,
    mv 14 13,
    og 15 (.fieldAddr (.d Za) 1 (.t 1)) 14 false,
    og 16 (.load (.d (.sl (.int .i64))) (.t 15)) 14 false,
    og 17 (.len (.t 16)) 14 false,
    og 18 (.fieldAddr (.d Zx) 1 (.t 3)) 14 false,
    og 19 (.load (.d (.sl (.int .i64))) (.t 18)) 14 false,
    og 20 (.len (.t 19)) 14 false,
    og 21 (.bin .neq (.t 17) (.t 20)) 14 false,
    o_ 22 (.pick (.t 14) (.c .bool true) (.t 21)),
    mv 23 22,
    og 24 (.fieldAddr (.d Za) 2 (.t 1)) 23 false,
    og 25 (.load (.d (.sl (.int .i64))) (.t 24)) 23 false,
    og 26 (.len (.t 25)) 23 false,
    og 27 (.fieldAddr (.d Zx) 1 (.t 3)) 23 false,
    og 28 (.load (.d (.sl (.int .i64))) (.t 27)) 23 false,
    og 29 (.len (.t 28)) 23 false,
    og 30 (.bin .neq (.t 26) (.t 29)) 23 false,
    o_ 31 (.pick (.t 23) (.c .bool true) (.t 30)),
    mv 32 31,
    og 33 (.fieldAddr (.d Za) 3 (.t 1)) 32 false,
    og 34 (.load (.d (.sl Zb)) (.t 33)) 32 false,
    og 35 (.len (.t 34)) 32 false,
    og 36 (.fieldAddr (.d Zx) 3 (.t 3)) 32 false,
    og 37 (.load (.d (.sl (.int .i64))) (.t 36)) 32 false,
    og 38 (.len (.t 37)) 32 false,
    og 39 (.bin .neq (.t 35) (.t 38)) 32 false,
    o_ 40 (.pick (.t 32) (.c .bool true) (.t 39))]) (BK4)) (BK3)) (BK2)
def BKz:Cd:=.seq (.seq (.reg false [fa 9 Za 0 1,
    ld 10 Zx 9,
    nb 3 1 Zx,
    sr Zx 3 10]) (BK1)) (BK0)
def Zf.fn:Fn:=⟨1,[.tmp 2],.seq (.reg false [bx 1 0 0,
    o_ 2 (.move (.c .bool false))]) (BKz)⟩
def BWh:Cd:=td [3,4,5,6,7,8]
def BWg:Cd:=.ret
def BWf:Cd:=.seq (.seq (.reg false [ld 3 Za 1,
    o_ 4 (.call (.f 20) [(.t 3)] [.d .bool] [] false),
    mv 5 4,
    og 6 (.load (.d Za) (.t 1)) 5 true,
    og 7 (.call (.f 14) [(.t 6)] [.d .bool] [] false) 5 true,
    o_ 8 (.pick (.t 5) (.t 7) (.c .bool false)),
    mv 2 8]) (BWh)) (BWg)
def X7.fn:Fn:=⟨1,[.tmp 2],.seq (.reg false [bx 1 0 0,
    o_ 2 (.move (.c .bool false))]) (BWf)⟩
def BWk:Cd:=td [3,4,5,6,7,8,9,10,11,12]
def BWj:Cd:=.ret
def BWi:Cd:=.seq (.seq (.reg false [fa 3 Z5 5 1,
    o_ 4 (.load (.d (.sl (.int .i64))) (.t 3)),
    le 5 4,
    bc 6 .leq 5 40,
    mv 7 6,
    og 8 (.fieldAddr (.d Z5) 7 (.t 1)) 7 true,
    og 9 (.load (.d (.sl (.int .i64))) (.t 8)) 7 true,
    og 10 (.len (.t 9)) 7 true,
    og 11 (.bin .leq (.t 10) (.c (.int .i64) (40:Int))) 7 true,
    o_ 12 (.pick (.t 7) (.t 11) (.c .bool false)),
    mv 2 12]) (BWk)) (BWj)
def Yd.fn:Fn:=⟨1,[.tmp 2],.seq (.reg false [bx 1 0 0,
    o_ 2 (.move (.c .bool false))]) (BWi)⟩
def BMt:Cd:=td [6,7,8,9]
def BMv:Cd:=.ret
def BMu:Cd:=.seq (.reg false [o_ 4 (.move (.c .bool false))]) (BMv)
def BMw:Cd:=.skip
def BMs:Cd:=.cond (.t 10) (.seq (td [10]) (BMu)) (.seq (td [10]) (BMw))
def BAy:Cd:=td [11,12,13]
def BAz:Cd:=.skip
def BA7:Cd:=.exit 0
def BAx:Cd:=.cond (.t 14) (.seq (td [14]) (BAz)) (.seq (td [14]) (BA7))
def BA2:Cd:=td [17,18,19,20,21,22,23,24]
def BA4:Cd:=.ret
def BA3:Cd:=.seq (.reg false [o_ 4 (.move (.c .bool false))]) (BA4)
def BA5:Cd:=.skip
def BA1:Cd:=.cond (.t 25) (.seq (td [25]) (BA3)) (.seq (td [25]) (BA5))
def BA6:Cd:=td [15,16]
def BA0:Cd:=.seq (.reg false [mv 15 5,
    bc 16 .add 15 1,
    mv 5 16]) (BA6)
def BAw:Cd:=.seq (.block 1 (.seq (.seq (.reg true [mv 17 0,
    mv 18 5,
    ix 19 (.sl Zb) 17 18,
    ld 20 Zb 19,
    mv 21 1,
    mv 22 5,
    ix 23 (.sl Zb) 21 22,
    ld 24 Zb 23,
    o_ 25 (.eqs Zb true (.t 20) (.t 24))]) (BA2)) (BA1))) (BA0)
def BAv:Cd:=.tidy [] [] [] (some 0)
def ARg:Cd:=.seq (.seq (.seq (.seq (.reg false [mv 11 5,
    mv 12 0,
    le 13 12,
    bi 14 .lss 11 13]) (BAy)) (BAx)) (BAw)) (BAv)
def BMx:Cd:=.block 0 (.loop (ARg))
def BA8:Cd:=.ret
def ARf:Cd:=.seq (.reg false [o_ 4 (.move (.c .bool true))]) (BA8)
def BMr:Cd:=.seq (.seq (.reg false [ci 5 0]) (BMx)) (ARf)
def BMq:Cd:=.seq (.seq (.seq (.reg false [mv 6 0,
    le 7 6,
    mv 8 1,
    le 9 8,
    bi 10 .neq 7 9]) (BMt)) (BMs)) (BMr)
def Zw.fn:Fn:=⟨2,[.tmp 4],.seq (.reg false [o_ 4 (.move (.c .bool false))]) (BMq)⟩
def BKo:Cd:=td [9,10]
def BKq:Cd:=td [11,12]
def BKt:Cd:=td [13,14,15,16,17,18,19,20,21,22,23,24,25,26,27,28,29,30,31,32,33,34,35,36,37,38,39,40,41,42,43,44,45,46,47,48]
def BKv:Cd:=.ret
def BKu:Cd:=.seq (.reg false [o_ 4 (.move (.c .bool false))]) (BKv)
def AVq:Cd:=.skip
def BKs:Cd:=.cond (.t 49) (.seq (td [49]) (BKu)) (.seq (td [49]) (AVq))
def AVv:Cd:=td [50,51,52,53]
def AVw:Cd:=.skip
def AV4:Cd:=.exit 0
def AVu:Cd:=.cond (.t 54) (.seq (td [54]) (AVw)) (.seq (td [54]) (AV4))
def AVz:Cd:=td [57,58,59,60,61,62,63,64,65,66]
def AV1:Cd:=.ret
def AV0:Cd:=.seq (.reg false [o_ 4 (.move (.c .bool false))]) (AV1)
def AV2:Cd:=.skip
def AVy:Cd:=.cond (.t 67) (.seq (td [67]) (AV0)) (.seq (td [67]) (AV2))
def AV3:Cd:=td [55,56]
def AVx:Cd:=.seq (.reg false [mv 55 7,
    bc 56 .add 55 1,
    mv 7 56]) (AV3)
def AVt:Cd:=.seq (.block 1 (.seq (.seq (.reg true [od 57 (.fieldAddr (.d Zx) 0 (.t 5)) [2] [],
    od 58 (.load (.d (.sl (.arr 4 (.int .i64)))) (.t 57)) [2] [],
    mv 59 7,
    o_ 60 (.index (.sl (.arr 4 (.int .i64))) (.t 58) (.t 59)),
    o_ 61 (.load (.d (.arr 4 (.int .i64))) (.t 60)),
    od 62 (.fieldAddr (.d Zx) 0 (.t 6)) [3] [],
    od 63 (.load (.d (.sl (.arr 4 (.int .i64)))) (.t 62)) [3] [],
    mv 64 7,
    o_ 65 (.index (.sl (.arr 4 (.int .i64))) (.t 63) (.t 64)),
    o_ 66 (.load (.d (.arr 4 (.int .i64))) (.t 65)),
    o_ 67 (.eqs (.arr 4 (.int .i64)) true (.t 61) (.t 66))]) (AVz)) (AVy))) (AVx)
def AVs:Cd:=.tidy [] [] [] (some 4)
def AJ7:Cd:=.seq (.seq (.seq (.seq (.reg false [mv 50 7,
    fa 51 Zx 0 5,
    o_ 52 (.load (.d (.sl (.arr 4 (.int .i64)))) (.t 51)),
    le 53 52,
    bi 54 .lss 50 53]) (AVv)) (AVu)) (AVt)) (AVs)
def AVr:Cd:=.block 0 (.loop (AJ7))
def AV9:Cd:=td [68,69,70,71]
def AWa:Cd:=.skip
def AWi:Cd:=.exit 2
def AV8:Cd:=.cond (.t 72) (.seq (td [72]) (AWa)) (.seq (td [72]) (AWi))
def AWd:Cd:=td [75,76,77,78,79,80,81,82,83,84]
def AWf:Cd:=.ret
def AWe:Cd:=.seq (.reg false [o_ 4 (.move (.c .bool false))]) (AWf)
def AWg:Cd:=.skip
def AWc:Cd:=.cond (.t 85) (.seq (td [85]) (AWe)) (.seq (td [85]) (AWg))
def AWh:Cd:=td [73,74]
def AWb:Cd:=.seq (.reg false [mv 73 8,
    bc 74 .add 73 1,
    mv 8 74]) (AWh)
def AV7:Cd:=.seq (.block 3 (.seq (.seq (.reg true [od 75 (.fieldAddr (.d Zx) 4 (.t 5)) [2] [],
    od 76 (.load (.d (.sl .bool)) (.t 75)) [2] [],
    mv 77 8,
    ix 78 (.sl .bool) 76 77,
    ld 79 .bool 78,
    od 80 (.fieldAddr (.d Zx) 4 (.t 6)) [3] [],
    od 81 (.load (.d (.sl .bool)) (.t 80)) [3] [],
    mv 82 8,
    ix 83 (.sl .bool) 81 82,
    ld 84 .bool 83,
    o_ 85 (.eqs .bool true (.t 79) (.t 84))]) (AWd)) (AWc))) (AWb)
def AV6:Cd:=.tidy [] [] [] (some 4)
def AJ9:Cd:=.seq (.seq (.seq (.seq (.reg false [mv 68 8,
    fa 69 Zx 4 5,
    ld 70 (.sl .bool) 69,
    le 71 70,
    bi 72 .lss 68 71]) (AV9)) (AV8)) (AV7)) (AV6)
def AV5:Cd:=.block 2 (.loop (AJ9))
def AWk:Cd:=td [86,87,88,89,90,91,92,93,94,95,96,97,98,99,100,101,102,103,104,105,106,107,108,109,110,111,112,113,114,115,116,117,118,119,120,121,122,123,124,125]
def AWj:Cd:=.ret
def AJ8:Cd:=.seq (.seq (.reg false [fa 86 Zx 1 5,
    o_ 87 (.load (.d (.sl (.int .i64))) (.t 86)),
    fa 88 Zx 1 6,
    o_ 89 (.load (.d (.sl (.int .i64))) (.t 88)),
    o_ 90 (.call (.f 33) [(.t 87),(.t 89)] [.d .bool] [] false),
    mv 91 90,
    og 92 (.fieldAddr (.d Zx) 2 (.t 5)) 91 true,
    og 93 (.load (.d (.sl (.int .i64))) (.t 92)) 91 true,
    og 94 (.fieldAddr (.d Zx) 2 (.t 6)) 91 true,
    og 95 (.load (.d (.sl (.int .i64))) (.t 94)) 91 true,
    og 96 (.call (.f 33) [(.t 93),(.t 95)] [.d .bool] [] false) 91 true,
    o_ 97 (.pick (.t 91) (.t 96) (.c .bool false)),
    mv 98 97,
    og 99 (.fieldAddr (.d Zx) 3 (.t 5)) 98 true,
    og 100 (.load (.d (.sl (.int .i64))) (.t 99)) 98 true,
    og 101 (.fieldAddr (.d Zx) 3 (.t 6)) 98 true,
    og 102 (.load (.d (.sl (.int .i64))) (.t 101)) 98 true,
    og 103 (.call (.f 33) [(.t 100),(.t 102)] [.d .bool] [] false) 98 true,
    o_ 104 (.pick (.t 98) (.t 103) (.c .bool false)),
    mv 105 104,
    og 106 (.fieldAddr (.d Za) 1 (.t 2)) 105 true,
    og 107 (.load (.d (.sl (.int .i64))) (.t 106)) 105 true,
    og 108 (.fieldAddr (.d Za) 1 (.t 3)) 105 true,
    og 109 (.load (.d (.sl (.int .i64))) (.t 108)) 105 true,
    og 110 (.call (.f 33) [(.t 107),(.t 109)] [.d .bool] [] false) 105 true,
    o_ 111 (.pick (.t 105) (.t 110) (.c .bool false)),
    mv 112 111,
    og 113 (.fieldAddr (.d Za) 2 (.t 2)) 112 true,
    og 114 (.load (.d (.sl (.int .i64))) (.t 113)) 112 true,
    og 115 (.fieldAddr (.d Za) 2 (.t 3)) 112 true,
    og 116 (.load (.d (.sl (.int .i64))) (.t 115)) 112 true,
    og 117 (.call (.f 33) [(.t 114),(.t 116)] [.d .bool] [] false) 112 true,
    o_ 118 (.pick (.t 112) (.t 117) (.c .bool false)),
    mv 119 118,
    og 120 (.fieldAddr (.d Za) 3 (.t 2)) 119 true,
    og 121 (.load (.d (.sl Zb)) (.t 120)) 119 true,
    og 122 (.fieldAddr (.d Za) 3 (.t 3)) 119 true,
    og 123 (.load (.d (.sl Zb)) (.t 122)) 119 true,
    og 124 (.call (.f 34) [(.t 121),(.t 123)] [.d .bool] [] false) 119 true,
    o_ 125 (.pick (.t 119) (.t 124) (.c .bool false)),
    mv 4 125]) (AWk)) (AWj)
def AJ6:Cd:=.seq (.seq (.reg false [ci 8 0]) (AV5)) (AJ8)
def BKr:Cd:=.seq (.seq (.reg false [ci 7 0]) (AVr)) (AJ6)
def BKp:Cd:=.seq (.seq (.seq (.reg false [fa 13 Zx 5 5,
    ld 14 (.int .i64) 13,
    fa 15 Zx 5 6,
    ld 16 (.int .i64) 15,
    bi 17 .neq 14 16,
    mv 18 17,
    og 19 (.fieldAddr (.d Zx) 6 (.t 5)) 18 false,
    og 20 (.load (.d (.int .i64)) (.t 19)) 18 false,
    og 21 (.fieldAddr (.d Zx) 6 (.t 6)) 18 false,
    og 22 (.load (.d (.int .i64)) (.t 21)) 18 false,
    og 23 (.bin .neq (.t 20) (.t 22)) 18 false,
    o_ 24 (.pick (.t 18) (.c .bool true) (.t 23)),
    mv 25 24,
    og 26 (.fieldAddr (.d Zx) 7 (.t 5)) 25 false,
    og 27 (.load (.d (.int .i64)) (.t 26)) 25 false,
    og 28 (.fieldAddr (.d Zx) 7 (.t 6)) 25 false,
    og 29 (.load (.d (.int .i64)) (.t 28)) 25 false,
    og 30 (.bin .neq (.t 27) (.t 29)) 25 false,
    o_ 31 (.pick (.t 25) (.c .bool true) (.t 30)),
    mv 32 31,
    og 33 (.fieldAddr (.d Zx) 0 (.t 5)) 32 false,
    og 34 (.load (.d (.sl (.arr 4 (.int .i64)))) (.t 33)) 32 false,
    og 35 (.len (.t 34)) 32 false,
    og 36 (.fieldAddr (.d Zx) 0 (.t 6)) 32 false,
    og 37 (.load (.d (.sl (.arr 4 (.int .i64)))) (.t 36)) 32 false,
    og 38 (.len (.t 37)) 32 false,
    og 39 (.bin .neq (.t 35) (.t 38)) 32 false,
    o_ 40 (.pick (.t 32) (.c .bool true) (.t 39)),
    mv 41 40,
    og 42 (.fieldAddr (.d Zx) 4 (.t 5)) 41 false,
    og 43 (.load (.d (.sl .bool)) (.t 42)) 41 false,
    og 44 (.len (.t 43)) 41 false,
    og 45 (.fieldAddr (.d Zx) 4 (.t 6)) 41 false,
    og 46 (.load (.d (.sl .bool)) (.t 45)) 41 false,
    og 47 (.len (.t 46)) 41 false,
    og 48 (.bin .neq (.t 44) (.t 47)) 41 false,
    o_ 49 (.pick (.t 41) (.c .bool true) (.t 48))]) (BKt)) (BKs)) (BKr)
def BKn:Cd:=.seq (.seq (.reg false [fa 11 Za 0 3,
    ld 12 Zx 11,
    nb 6 3 Zx,
    sr Zx 6 12]) (BKq)) (BKp)
def BKm:Cd:=.seq (.seq (.reg false [fa 9 Za 0 2,
    ld 10 Zx 9,
    nb 5 2 Zx,
    sr Zx 5 10]) (BKo)) (BKn)
def Zk.fn:Fn:=⟨2,[.tmp 4],.seq (.reg false [bx 2 0 0,
    bx 3 1 1,
    o_ 4 (.move (.c .bool false))]) (BKm)⟩
def BLe:Cd:=td [5,6,7,8]
def BLf:Cd:=.skip
def AYi:Cd:=.exit 0
def BLd:Cd:=.cond (.t 9) (.seq (td [9]) (BLf)) (.seq (td [9]) (AYi))
def AYg:Cd:=td [12,13,14,15,16,17,18]
def AYh:Cd:=td [10,11]
def AYf:Cd:=.seq (.reg false [mv 10 4,
    bc 11 .add 10 1,
    mv 4 11]) (AYh)
def BLc:Cd:=.seq (.block 1 (.seq (.reg false [mv 12 3,
    fa 13 Za 2 1,
    o_ 14 (.load (.d (.sl (.int .i64))) (.t 13)),
    mv 15 4,
    ix 16 (.sl (.int .i64)) 14 15,
    ld 17 (.int .i64) 16,
    bi 18 .add 12 17,
    mv 3 18]) (AYg))) (AYf)
def BLb:Cd:=.tidy [] [] [] (some 1)
def ARc:Cd:=.seq (.seq (.seq (.seq (.reg false [mv 5 4,
    fa 6 Za 2 1,
    o_ 7 (.load (.d (.sl (.int .i64))) (.t 6)),
    le 8 7,
    bi 9 .lss 5 8]) (BLe)) (BLd)) (BLc)) (BLb)
def BLa:Cd:=.block 0 (.loop (ARc))
def AYk:Cd:=td [19]
def AYj:Cd:=.ret
def ARb:Cd:=.seq (.seq (.reg false [mv 19 3,
    mv 2 19]) (AYk)) (AYj)
def BK9:Cd:=.seq (.seq (.reg false [ci 4 0]) (BLa)) (ARb)
def BK8:Cd:=.seq (.reg false [ci 3 0]) (BK9)
def Z3.fn:Fn:=⟨1,[.tmp 2],.seq (.reg false [bx 1 0 0,
    ci 2 0]) (BK8)⟩
def BN7:Cd:=td [3,4,5,6,7,8]
def BN6:Cd:=.ret
def BN5:Cd:=.seq (.seq (.reg false [mv 3 0,
    bc 4 .geq 3 0,
    mv 5 4,
    og 6 (.move (.t 0)) 5 true,
    og 7 (.bin .leq (.t 6) (.c (.int .i64) (1073741824:Int))) 5 true,
    o_ 8 (.pick (.t 5) (.t 7) (.c .bool false)),
    mv 2 8]) (BN7)) (BN6)
def Xw.fn:Fn:=⟨1,[.tmp 2],.seq (.reg false [o_ 2 (.move (.c .bool false))]) (BN5)⟩
def BLj:Cd:=td [8,9,10,11,12,13,14]
def BLl:Cd:=.ret
def BLk:Cd:=.seq (.reg false [o_ 2 (.move (.c .bool false))]) (BLl)
def BLm:Cd:=.skip
def BLi:Cd:=.cond (.t 15) (.seq (td [15]) (BLk)) (.seq (td [15]) (BLm))
def BLp:Cd:=td [16,17]
def AYn:Cd:=td [19,20,21,22,23]
def AYm:Cd:=.ret
def AYl:Cd:=.seq (.seq (.reg false [ld 19 Zm 1,
    fa 20 Zm 0 1,
    ld 21 (.int .i64) 20,
    o_ 22 (.build Zm [(0,(.t 21))] []),
    o_ 23 (.call (.f 13) [(.t 19),(.t 22)] [.d .bool] [] false),
    mv 2 23]) (AYn)) (AYm)
def AYo:Cd:=.skip
def BLo:Cd:=.cond (.t 18) (.seq (td [18]) (AYl)) (.seq (td [18]) (AYo))
def AYq:Cd:=td [24,25]
def AYt:Cd:=td [26,27,28,29,30,31,32,33,34,35,36,37,38,39,40,41,42,43,44,45,46,47,48,49,50,51,52,53,54]
def AYv:Cd:=.ret
def AYu:Cd:=.seq (.reg false [o_ 2 (.move (.c .bool false))]) (AYv)
def AYw:Cd:=.skip
def AYs:Cd:=.cond (.t 55) (.seq (td [55]) (AYu)) (.seq (td [55]) (AYw))
def AY1:Cd:=td [56,57,58,59]
def AY2:Cd:=.skip
def AZa:Cd:=.exit 0
def AY0:Cd:=.cond (.t 60) (.seq (td [60]) (AY2)) (.seq (td [60]) (AZa))
def AY5:Cd:=td [63,64,65,66,67,68]
def AY7:Cd:=.ret
def AY6:Cd:=.seq (.reg false [o_ 2 (.move (.c .bool false))]) (AY7)
def AY8:Cd:=.skip
def AY4:Cd:=.cond (.t 69) (.seq (td [69]) (AY6)) (.seq (td [69]) (AY8))
def AY9:Cd:=td [61,62]
def AY3:Cd:=.seq (.reg false [mv 61 4,
    bc 62 .add 61 1,
    mv 4 62]) (AY9)
def AYz:Cd:=.seq (.block 1 (.seq (.seq (.reg false [fa 63 Zm 3 1,
    o_ 64 (.load (.d (.sl (.int .i64))) (.t 63)),
    mv 65 4,
    ix 66 (.sl (.int .i64)) 64 65,
    ld 67 (.int .i64) 66,
    o_ 68 (.call (.f 42) [(.t 67)] [.d .bool] [] false),
    nt 69 68]) (AY5)) (AY4))) (AY3)
def AYy:Cd:=.tidy [] [] [] (some 1)
def AKi:Cd:=.seq (.seq (.seq (.seq (.reg false [mv 56 4,
    fa 57 Zm 3 1,
    o_ 58 (.load (.d (.sl (.int .i64))) (.t 57)),
    le 59 58,
    bi 60 .lss 56 59]) (AY1)) (AY0)) (AYz)) (AYy)
def AYx:Cd:=.block 0 (.loop (AKi))
def AZf:Cd:=td [70,71,72,73]
def AZg:Cd:=.skip
def AZq:Cd:=.exit 2
def AZe:Cd:=.cond (.t 74) (.seq (td [74]) (AZg)) (.seq (td [74]) (AZq))
def AZj:Cd:=td [77,78,79,80,81]
def AZl:Cd:=td [82,83,84,85,86,87,88,89,90,91,92,93,94,95,96,97,98,99,100,101,102,103,104,105,106,107,108,109]
def AZn:Cd:=.ret
def AZm:Cd:=.seq (.reg false [o_ 2 (.move (.c .bool false))]) (AZn)
def AZo:Cd:=.skip
def AZk:Cd:=.cond (.t 110) (.seq (td [110]) (AZm)) (.seq (td [110]) (AZo))
def AZi:Cd:=.seq (.seq (.reg false [fa 82 Z7 0 6,
    ld 83 (.int .i64) 82,
    o_ 84 (.call (.f 42) [(.t 83)] [.d .bool] [] false),
    nt 85 84,
    mv 86 85,
    og 87 (.fieldAddr (.d Z7) 1 (.t 6)) 86 false,
    og 88 (.fieldAddr (.d Zb) 1 (.t 87)) 86 false,
    og 89 (.load (.d (.int .i64)) (.t 88)) 86 false,
    og 90 (.call (.f 42) [(.t 89)] [.d .bool] [] false) 86 false,
    og 91 (.not (.t 90)) 86 false,
    o_ 92 (.pick (.t 86) (.c .bool true) (.t 91)),
    mv 93 92,
    og 94 (.fieldAddr (.d Z7) 1 (.t 6)) 93 false,
    og 95 (.fieldAddr (.d Zb) 0 (.t 94)) 93 false,
    og 96 (.load (.d (.int .i64)) (.t 95)) 93 false,
    og 97 (.bin .neq (.t 96) (.c (.int .i64) (0:Int))) 93 false,
    og 98 (.move (.t 97)) 93 false,
    og 99 (.fieldAddr (.d Z7) 1 (.t 6)) 98 true,
    og 100 (.fieldAddr (.d Zb) 0 (.t 99)) 98 true,
    og 101 (.load (.d (.int .i64)) (.t 100)) 98 true,
    og 102 (.bin .neq (.t 101) (.c (.int .i64) (1:Int))) 98 true,
    og 103 (.pick (.t 98) (.t 102) (.c .bool false)) 93 false,
    og 104 (.move (.t 103)) 93 false,
    og 105 (.fieldAddr (.d Z7) 1 (.t 6)) 104 true,
    og 106 (.fieldAddr (.d Zb) 0 (.t 105)) 104 true,
    og 107 (.load (.d (.int .i64)) (.t 106)) 104 true,
    og 108 (.bin .neq (.t 107) (.c (.int .i64) (2:Int))) 104 true,
    og 109 (.pick (.t 104) (.t 108) (.c .bool false)) 93 false,
    o_ 110 (.pick (.t 93) (.c .bool true) (.t 109))]) (AZl)) (AZk)
def AZp:Cd:=td [75,76]
def AZh:Cd:=.seq (.reg false [mv 75 5,
    bc 76 .add 75 1,
    mv 5 76]) (AZp)
def AZd:Cd:=.seq (.block 3 (.seq (.seq (.reg false [fa 77 Zm 4 1,
    ld 78 (.sl Z7) 77,
    mv 79 5,
    ix 80 (.sl Z7) 78 79,
    ld 81 Z7 80,
    nb 6 1 Z7,
    sr Z7 6 81]) (AZj)) (AZi))) (AZh)
def AZc:Cd:=.tidy [6] [] [] (some 1)
def AKk:Cd:=.seq (.seq (.seq (.seq (.reg false [mv 70 5,
    fa 71 Zm 4 1,
    ld 72 (.sl Z7) 71,
    le 73 72,
    bi 74 .lss 70 73]) (AZf)) (AZe)) (AZd)) (AZc)
def AZb:Cd:=.block 2 (.loop (AKk))
def AZs:Cd:=td [111,112,113,114,115,116,117,118,119,120]
def AZu:Cd:=td [121,122,123,124,125,126,127,128,129,130,131,132,133,134,135,136,137,138,139,140,141,142,143,144,145,146,147,148,149,150,151,152,153,154,155]
def AZt:Cd:=.ret
def AZr:Cd:=.seq (.seq (.reg false [mv 121 7,
    mv 122 121,
    og 123 (.fieldAddr (.d Zm) 2 (.t 1)) 122 false,
    og 124 (.load (.d (.int .i64)) (.t 123)) 122 false,
    og 125 (.bin .eql (.t 124) (.c (.int .i64) (0:Int))) 122 false,
    o_ 126 (.pick (.t 122) (.c .bool true) (.t 125)),
    mv 127 126,
    og 128 (.move (.t 3)) 127 true,
    og 129 (.bin .eql (.t 128) (.c (.int .i64) (9:Int))) 127 true,
    og 130 (.move (.t 129)) 127 true,
    og 131 (.fieldAddr (.d Zm) 3 (.t 1)) 130 false,
    og 132 (.load (.d (.sl (.int .i64))) (.t 131)) 130 false,
    og 133 (.len (.t 132)) 130 false,
    og 134 (.bin .eql (.t 133) (.c (.int .i64) (0:Int))) 130 false,
    og 135 (.pick (.t 130) (.c .bool true) (.t 134)) 127 true,
    o_ 136 (.pick (.t 127) (.t 135) (.c .bool false)),
    mv 137 136,
    og 138 (.move (.t 3)) 137 true,
    og 139 (.bin .geq (.t 138) (.c (.int .i64) (9:Int))) 137 true,
    og 140 (.move (.t 139)) 137 true,
    og 141 (.fieldAddr (.d Zm) 4 (.t 1)) 140 false,
    og 142 (.load (.d (.sl Z7)) (.t 141)) 140 false,
    og 143 (.len (.t 142)) 140 false,
    og 144 (.bin .eql (.t 143) (.c (.int .i64) (0:Int))) 140 false,
    og 145 (.pick (.t 140) (.c .bool true) (.t 144)) 137 true,
    o_ 146 (.pick (.t 137) (.t 145) (.c .bool false)),
    mv 147 146,
    og 148 (.move (.t 3)) 147 true,
    og 149 (.bin .eql (.t 148) (.c (.int .i64) (10:Int))) 147 true,
    og 150 (.move (.t 149)) 147 true,
    og 151 (.fieldAddr (.d Zm) 5 (.t 1)) 150 false,
    og 152 (.load (.d (.int .i64)) (.t 151)) 150 false,
    og 153 (.bin .eql (.t 152) (.c (.int .i64) (0:Int))) 150 false,
    og 154 (.pick (.t 150) (.c .bool true) (.t 153)) 147 true,
    o_ 155 (.pick (.t 147) (.t 154) (.c .bool false)),
    mv 2 155]) (AZu)) (AZt)
def AKj:Cd:=.seq (.seq (.reg false [mv 111 3,
    bc 112 .eql 111 1,
    mv 113 112,
    og 114 (.move (.t 3)) 113 false,
    og 115 (.bin .eql (.t 114) (.c (.int .i64) (2:Int))) 113 false,
    o_ 116 (.pick (.t 113) (.c .bool true) (.t 115)),
    mv 117 116,
    og 118 (.move (.t 3)) 117 false,
    og 119 (.bin .eql (.t 118) (.c (.int .i64) (9:Int))) 117 false,
    o_ 120 (.pick (.t 117) (.c .bool true) (.t 119)),
    mv 7 120]) (AZs)) (AZr)
def AKh:Cd:=.seq (.seq (.reg false [ci 5 0]) (AZb)) (AKj)
def AYr:Cd:=.seq (.seq (.reg false [ci 4 0]) (AYx)) (AKh)
def AYp:Cd:=.seq (.seq (.seq (.reg false [mv 26 3,
    bc 27 .lss 26 1,
    mv 28 27,
    og 29 (.move (.t 3)) 28 false,
    og 30 (.bin .gtr (.t 29) (.c (.int .i64) (10:Int))) 28 false,
    o_ 31 (.pick (.t 28) (.c .bool true) (.t 30)),
    mv 32 31,
    og 33 (.fieldAddr (.d Zm) 2 (.t 1)) 32 false,
    og 34 (.load (.d (.int .i64)) (.t 33)) 32 false,
    og 35 (.call (.f 42) [(.t 34)] [.d .bool] [] false) 32 false,
    og 36 (.not (.t 35)) 32 false,
    o_ 37 (.pick (.t 32) (.c .bool true) (.t 36)),
    mv 38 37,
    og 39 (.fieldAddr (.d Zm) 5 (.t 1)) 38 false,
    og 40 (.load (.d (.int .i64)) (.t 39)) 38 false,
    og 41 (.call (.f 42) [(.t 40)] [.d .bool] [] false) 38 false,
    og 42 (.not (.t 41)) 38 false,
    o_ 43 (.pick (.t 38) (.c .bool true) (.t 42)),
    mv 44 43,
    og 45 (.fieldAddr (.d Zm) 3 (.t 1)) 44 false,
    og 46 (.load (.d (.sl (.int .i64))) (.t 45)) 44 false,
    og 47 (.len (.t 46)) 44 false,
    og 48 (.bin .gtr (.t 47) (.c (.int .i64) (16:Int))) 44 false,
    o_ 49 (.pick (.t 44) (.c .bool true) (.t 48)),
    mv 50 49,
    og 51 (.fieldAddr (.d Zm) 4 (.t 1)) 50 false,
    og 52 (.load (.d (.sl Z7)) (.t 51)) 50 false,
    og 53 (.len (.t 52)) 50 false,
    og 54 (.bin .gtr (.t 53) (.c (.int .i64) (16:Int))) 50 false,
    o_ 55 (.pick (.t 50) (.c .bool true) (.t 54))]) (AYt)) (AYs)) (AYr)
def BLn:Cd:=.seq (.seq (.reg false [fa 24 Zm 1 1,
    ld 25 (.int .i64) 24,
    mv 3 25]) (AYq)) (AYp)
def BLh:Cd:=.seq (.seq (.seq (.reg false [fa 16 Zm 0 1,
    ld 17 (.int .i64) 16,
    bc 18 .neq 17 0]) (BLp)) (BLo)) (BLn)
def BLg:Cd:=.seq (.seq (.seq (.reg false [fa 8 Zm 0 1,
    ld 9 (.int .i64) 8,
    bc 10 .lss 9 0,
    mv 11 10,
    og 12 (.fieldAddr (.d Zm) 0 (.t 1)) 11 false,
    og 13 (.load (.d (.int .i64)) (.t 12)) 11 false,
    og 14 (.bin .gtr (.t 13) (.c (.int .i64) (13:Int))) 11 false,
    o_ 15 (.pick (.t 11) (.c .bool true) (.t 14))]) (BLj)) (BLi)) (BLh)
def Zn.fn:Fn:=⟨1,[.tmp 2],.seq (.reg false [bx 1 0 0,
    o_ 2 (.move (.c .bool false))]) (BLg)⟩
def BVz:Cd:=td [9,10,11,12,13,14,15,16,17,18,19]
def BV2:Cd:=td [21]
def BV1:Cd:=.ret
def BV0:Cd:=.seq (.seq (.reg false [o_ 21 (.call (.f 7) [] [.d .bool] [] false),
    mv 4 21]) (BV2)) (BV1)
def BV3:Cd:=.skip
def BVy:Cd:=.cond (.t 20) (.seq (td [20]) (BV0)) (.seq (td [20]) (BV3))
def BOx:Cd:=td [22,23,24]
def BOy:Cd:=.skip
def BPo:Cd:=.exit 0
def BOw:Cd:=.cond (.t 25) (.seq (td [25]) (BOy)) (.seq (td [25]) (BPo))
def BO1:Cd:=td [28,29,30,31,32]
def BO4:Cd:=td [33,34,35,36,37,38,39,40,41,42,43,44,45,46,47,48,49,50,51,52,53]
def BO6:Cd:=.ret
def BO5:Cd:=.seq (.reg false [o_ 4 (.move (.c .bool true))]) (BO6)
def BO7:Cd:=.skip
def BO3:Cd:=.cond (.t 54) (.seq (td [54]) (BO5)) (.seq (td [54]) (BO7))
def BO9:Cd:=td [55,56,57,58,59,60,61,62,63,64,65]
def BPc:Cd:=td [66,67,68,69,70,71,72,73,74,75,76,77,78,79,80,81,82,83,84,85,86,87,88]
def BPe:Cd:=.ret
def BPd:Cd:=.seq (.reg false [o_ 4 (.move (.c .bool false))]) (BPe)
def BPf:Cd:=.skip
def BPb:Cd:=.cond (.t 89) (.seq (td [89]) (BPd)) (.seq (td [89]) (BPf))
def BPi:Cd:=td [90,91,92,93,94,95,96,97,98,99,100,101,102,103,104,105,106,107,108,109,110,111,112,113,114,115,116,117,118,119]
def BPk:Cd:=.ret
def BPj:Cd:=.seq (.reg false [o_ 4 (.move (.c .bool false))]) (BPk)
def BPl:Cd:=.skip
def BPh:Cd:=.cond (.t 120) (.seq (td [120]) (BPj)) (.seq (td [120]) (BPl))
def BPm:Cd:=td [121]
def BPg:Cd:=.seq (.reg false [ld 121 Za 7,
    sr Za 2 121]) (BPm)
def BPa:Cd:=.seq (.seq (.seq (.reg false [fa 90 Zm 0 8,
    ld 91 (.int .i64) 90,
    bc 92 .neq 91 0,
    mv 93 92,
    og 94 (.fieldAddr (.d Z5) 0 (.t 6)) 93 false,
    og 95 (.load (.d (.int .i64)) (.t 94)) 93 false,
    og 96 (.bin .eql (.t 95) (.c (.int .i64) (9:Int))) 93 false,
    o_ 97 (.pick (.t 93) (.c .bool true) (.t 96)),
    mv 98 97,
    og 99 (.fieldAddr (.d Z5) 0 (.t 6)) 98 false,
    og 100 (.load (.d (.int .i64)) (.t 99)) 98 false,
    og 101 (.bin .eql (.t 100) (.c (.int .i64) (10:Int))) 98 false,
    o_ 102 (.pick (.t 98) (.c .bool true) (.t 101)),
    mv 103 102,
    og 104 (.load (.d Za) (.t 7)) 103 true,
    og 105 (.load (.d Za) (.t 2)) 103 true,
    og 106 (.call (.f 12) [(.t 104),(.t 105)] [.d .bool] [] false) 103 true,
    og 107 (.not (.t 106)) 103 true,
    o_ 108 (.pick (.t 103) (.t 107) (.c .bool false)),
    mv 109 108,
    og 110 (.fieldAddr (.d Zm) 0 (.t 8)) 109 false,
    og 111 (.load (.d (.int .i64)) (.t 110)) 109 false,
    og 112 (.bin .eql (.t 111) (.c (.int .i64) (0:Int))) 109 false,
    og 113 (.move (.t 112)) 109 false,
    og 114 (.fieldAddr (.d Zm) 1 (.t 8)) 113 true,
    og 115 (.load (.d (.int .i64)) (.t 114)) 113 true,
    og 116 (.fieldAddr (.d Z5) 0 (.t 6)) 113 true,
    og 117 (.load (.d (.int .i64)) (.t 116)) 113 true,
    og 118 (.bin .neq (.t 115) (.t 117)) 113 true,
    og 119 (.pick (.t 113) (.t 118) (.c .bool false)) 109 false,
    o_ 120 (.pick (.t 109) (.c .bool true) (.t 119))]) (BPi)) (BPh)) (BPg)
def BO8:Cd:=.seq (.seq (.seq (.reg true [od 66 (.load (.d Za) (.t 7)) [2] [],
    o_ 67 (.call (.f 14) [(.t 66)] [.d .bool] [] false),
    nt 68 67,
    mv 69 68,
    ogd 70 (.load (.d Za) (.t 7)) 69 false [2],
    og 71 (.call (.f 15) [(.t 70)] [.d (.int .i64)] [] false) 69 false,
    ogd 72 (.load (.d Za) (.t 2)) 69 false [0],
    og 73 (.call (.f 15) [(.t 72)] [.d (.int .i64)] [] false) 69 false,
    og 74 (.bin .neq (.t 71) (.t 73)) 69 false,
    o_ 75 (.pick (.t 69) (.c .bool true) (.t 74)),
    mv 76 75,
    ogd 77 (.fieldAddr (.d Za) 3 (.t 7)) 76 false [2],
    ogd 78 (.load (.d (.sl Zb)) (.t 77)) 76 false [2],
    og 79 (.len (.t 78)) 76 false,
    ogd 80 (.fieldAddr (.d Za) 3 (.t 2)) 76 false [0],
    ogd 81 (.load (.d (.sl Zb)) (.t 80)) 76 false [0],
    og 82 (.len (.t 81)) 76 false,
    og 83 (.bin .neq (.t 79) (.t 82)) 76 false,
    o_ 84 (.pick (.t 76) (.c .bool true) (.t 83)),
    mv 85 84,
    ogd 86 (.load (.d Zm) (.t 8)) 85 false [3],
    og 87 (.call (.f 16) [(.t 86)] [.d .bool] [] false) 85 false,
    og 88 (.not (.t 87)) 85 false,
    o_ 89 (.pick (.t 85) (.c .bool true) (.t 88))]) (BPc)) (BPb)) (BPa)
def BO2:Cd:=.seq (.seq (.reg true [od 56 (.load (.d Za) (.t 2)) [0] [],
    mv 57 1,
    mv 58 5,
    ix 59 (.sl Yb) 57 58,
    fa 60 Yb 0 59,
    ld 61 (.int .i64) 60,
    od 62 (.load (.d Z5) (.t 6)) [1] [],
    o_ 63 (.call (.f 10) [(.t 56),(.t 61),(.t 62)] [.d Za,.d Zm] [] false),
    mv 55 63,
    xt 64 55 0,
    xt 65 55 1,
    od 7 (.newbox 2 Za []) [] [2],
    od 8 (.newbox 3 Zm []) [] [3],
    ⟨none,.store (.d Za) (.t 7) (.t 64),none,[],[2]⟩,
    ⟨none,.store (.d Zm) (.t 8) (.t 65),none,[],[3]⟩]) (BO9)) (BO8)
def BO0:Cd:=.seq (.seq (.seq (.reg true [od 33 (.load (.d Z5) (.t 6)) [1] [],
    o_ 34 (.call (.f 9) [(.t 33)] [.d .bool] [] false),
    nt 35 34,
    mv 36 35,
    og 37 (.move (.t 1)) 36 false,
    og 38 (.move (.t 5)) 36 false,
    og 39 (.index (.sl Yb) (.t 37) (.t 38)) 36 false,
    og 40 (.fieldAddr (.d Yb) 0 (.t 39)) 36 false,
    og 41 (.load (.d (.int .i64)) (.t 40)) 36 false,
    og 42 (.bin .lss (.t 41) (.c (.int .i64) (0:Int))) 36 false,
    o_ 43 (.pick (.t 36) (.c .bool true) (.t 42)),
    mv 44 43,
    og 45 (.move (.t 1)) 44 false,
    og 46 (.move (.t 5)) 44 false,
    og 47 (.index (.sl Yb) (.t 45) (.t 46)) 44 false,
    og 48 (.fieldAddr (.d Yb) 0 (.t 47)) 44 false,
    og 49 (.load (.d (.int .i64)) (.t 48)) 44 false,
    ogd 50 (.fieldAddr (.d Za) 1 (.t 2)) 44 false [0],
    ogd 51 (.load (.d (.sl (.int .i64))) (.t 50)) 44 false [0],
    og 52 (.len (.t 51)) 44 false,
    og 53 (.bin .geq (.t 49) (.t 52)) 44 false,
    o_ 54 (.pick (.t 44) (.c .bool true) (.t 53))]) (BO4)) (BO3)) (BO2)
def BPn:Cd:=td [26,27]
def BOz:Cd:=.seq (.reg false [mv 26 5,
    bc 27 .add 26 1,
    mv 5 27]) (BPn)
def BOv:Cd:=.seq (.block 1 (.seq (.seq (.reg false [mv 28 1,
    mv 29 5,
    ix 30 (.sl Yb) 28 29,
    fa 31 Yb 1 30,
    ld 32 Z5 31,
    nb 6 1 Z5,
    sr Z5 6 32]) (BO1)) (BO0))) (BOz)
def BOu:Cd:=.tidy [6,7,8] [] [] (some 1)
def ARn:Cd:=.seq (.seq (.seq (.seq (.reg false [mv 22 5,
    mv 23 1,
    le 24 23,
    bi 25 .lss 22 24]) (BOx)) (BOw)) (BOv)) (BOu)
def BV4:Cd:=.block 0 (.loop (ARn))
def BPp:Cd:=.ret
def BPq:Cd:=.seq (.reg false [o_ 4 (.move (.c .bool true))]) (BPp)
def BVx:Cd:=.seq (.seq (.reg false [ci 5 0]) (BV4)) (BPq)
def BVw:Cd:=.seq (.seq (.seq (.reg false [o_ 9 (.call (.f 7) [] [.d .bool] [] false),
    nt 10 9,
    mv 11 10,
    og 12 (.load (.d Za) (.t 2)) 11 false,
    og 13 (.call (.f 8) [(.t 12)] [.d .bool] [] false) 11 false,
    og 14 (.not (.t 13)) 11 false,
    o_ 15 (.pick (.t 11) (.c .bool true) (.t 14)),
    mv 16 15,
    og 17 (.move (.t 1)) 16 false,
    og 18 (.len (.t 17)) 16 false,
    og 19 (.bin .gtr (.t 18) (.c (.int .i64) (60:Int))) 16 false,
    o_ 20 (.pick (.t 16) (.c .bool true) (.t 19))]) (BVz)) (BVy)) (BVx)
def Zl.fn:Fn:=⟨2,[.tmp 4],.seq (.reg false [bx 2 0 0,
    o_ 4 (.move (.c .bool false))]) (BVw)⟩
def BPw:Cd:=td [3]
def BPv:Cd:=.ret
def BPu:Cd:=.seq (.seq (.reg false [o_ 3 (.func 86 [(.t 1)]),
    mv 2 3]) (BPw)) (BPv)
def Pn.fn:Fn:=⟨1,[.tmp 2],.seq (.reg false [bx 1 0 0,
    o_ 2 (.move .nf)]) (BPu)⟩
def BQc:Cd:=td [3]
def BQb:Cd:=.ret
def BQa:Cd:=.seq (.seq (.reg false [o_ 3 (.func 91 [(.t 1)]),
    mv 2 3]) (BQc)) (BQb)
def Po.fn:Fn:=⟨1,[.tmp 2],.seq (.reg false [bx 1 0 0,
    o_ 2 (.move .nf)]) (BQa)⟩
def BR8:Cd:=td [3]
def BR7:Cd:=.ret
def BR6:Cd:=.seq (.seq (.reg false [o_ 3 (.func 123 [(.t 1)]),
    mv 2 3]) (BR8)) (BR7)
def Tw.fn:Fn:=⟨1,[.tmp 2],.seq (.reg false [bx 1 0 0,
    o_ 2 (.move .nf)]) (BR6)⟩
def prog:FuncId→Option Fn
  | 4=>some Zl.fn
  | 7=>some X4.fn
  | 8=>some X7.fn
  | 9=>some Yd.fn
  | 10=>some Jo.fn
  | 12=>some Zk.fn
  | 13=>some X2.fn
  | 14=>some Zf.fn
  | 15=>some Z3.fn
  | 16=>some Zn.fn
  | 18=>some Ju.fn
  | 19=>some W9.fn
  | 20=>some X6.fn
  | 21=>some K0.fn
  | 33=>some Zu.fn
  | 34=>some Zw.fn
  | 35=>some Zz.fn
  | 36=>some Zc.fn
  | 37=>some Z9.fn
  | 38=>some Yc.fn
  | 39=>some Z0.fn
  | 40=>some Z2.fn
  | 41=>some Ye.fn
  | 42=>some Xw.fn
  | 45=>some K8.fn
  | 46=>some K9.fn
  | 47=>some Qe.fn
  | 48=>some Gj.fn
  | 49=>some Kd.fn
  | 50=>some Hz.fn
  | 51=>some Pn.fn
  | 52=>some Qh.fn
  | 53=>some Ka.fn
  | 54=>some Qi.fn
  | 55=>some Kb.fn
  | 56=>some Po.fn
  | 57=>some Qj.fn
  | 58=>some Hc.fn
  | 59=>some Qk.fn
  | 60=>some V8.fn
  | 61=>some Ql.fn
  | 62=>some V4.fn
  | 63=>some Qm.fn
  | 64=>some Vg.fn
  | 65=>some Qn.fn
  | 66=>some Vh.fn
  | 67=>some Z6.fn
  | 68=>some Tw.fn
  | 69=>some Vi.fn
  | 70=>some V9.fn
  | 81=>some Kp.fn
  | 82=>some Ui.fn
  | 83=>some Zo.fn
  | 84=>some Xa.fn
  | 85=>some V5.fn
  | 86=>some Qo.fn
  | 87=>some Yg.fn
  | 88=>some Vx.fn
  | 89=>some J5.fn
  | 90=>some Jk.fn
  | 91=>some Qp.fn
  | 92=>some Q2.fn
  | 93=>some Vr.fn
  | 94=>some Y1.fn
  | 95=>some Yy.fn
  | 96=>some Qy.fn
  | 97=>some Je.fn
  | 98=>some Jt.fn
  | 99=>some Jf.fn
  | 100=>some Jg.fn
  | 102=>some Jh.fn
  | 103=>some Jc.fn
  | 104=>some Xl.fn
  | 105=>some Ji.fn
  | 106=>some Q4.fn
  | 107=>some K2.fn
  | 108=>some Yk.fn
  | 109=>some Qq.fn
  | 110=>some Qr.fn
  | 111=>some Qs.fn
  | 112=>some Qt.fn
  | 113=>some Kr.fn
  | 114=>some Y6.fn
  | 115=>some Ys.fn
  | 117=>some Yw.fn
  | 118=>some Ym.fn
  | 119=>some Y4.fn
  | 120=>some Xo.fn
  | 121=>some V6.fn
  | 122=>some Jd.fn
  | 123=>some Y3.fn
  | 124=>some Xb.fn
  | 125=>some Xt.fn
  | 127=>some Zh.fn
  | 128=>some Qx.fn
  | 129=>some J9.fn
  | 130=>some Vu.fn
  | 131=>some H6.fn
  | 133=>some Yv.fn
  | 135=>some H0.fn
  | _=>none
end Go.Proofs.YtpemapoblhleoaaGreatDoor.Ghost
