/- The functions as ghost code. Conditions: none; no statement is proved here. -/
import Derived.Test.YtjobjooccgledaaGreatDoorA1
set_option linter.unusedVariables false
set_option linter.unusedSimpArgs false
set_option linter.unusedSectionVars false
set_option linter.unnecessarySimpa false
namespace Go.Proofs.YtjobjooccgledaaGreatDoor.Ghost
open Go
def o_ (d:Nat) (x:GOp):Ln:=⟨some d,x,none,[],[]⟩
def on_ (x:GOp):Ln:=⟨none,x,none,[],[]⟩
def og (d:Nat) (x:GOp) (g:Nat) (b:Bool):Ln:=⟨some d,x,some (g,b),[],[]⟩
def od (d:Nat) (x:GOp) (r w:List Nat):Ln:=⟨some d,x,none,r,w⟩
def ogd (d:Nat) (x:GOp) (g:Nat) (b:Bool) (r:List Nat):Ln:=⟨some d,x,some (g,b),r,[]⟩
def mv (d i:Nat):Ln:=⟨some d,.move (.t i),none,[],[]⟩
def ld (d:Nat) (t:Ty) (i:Nat):Ln:=⟨some d,.load (.d t) (.t i),none,[],[]⟩
def fa (d:Nat) (t:Ty) (j i:Nat):Ln:=⟨some d,.fieldAddr (.d t) j (.t i),none,[],[]⟩
def bi (d:Nat) (b:BinOp) (i j:Nat):Ln:=⟨some d,.bin b (.t i) (.t j),none,[],[]⟩
def bc (d:Nat) (b:BinOp) (i:Nat) (n:Int):Ln:=⟨some d,.bin b (.t i) (.c (.int .i64) n),none,[],[]⟩
def ix (d:Nat) (t:IT) (i j:Nat):Ln:=⟨some d,.index t (.t i) (.t j),none,[],[]⟩
def le (d i:Nat):Ln:=⟨some d,.len (.t i),none,[],[]⟩
def xt (d i j:Nat):Ln:=⟨some d,.extract (.t i) j,none,[],[]⟩
def nt (d i:Nat):Ln:=⟨some d,.not (.t i),none,[],[]⟩
def ci (d:Nat) (n:Int):Ln:=⟨some d,.move (.c (.int .i64) n),none,[],[]⟩
def sr (t:Ty) (i j:Nat):Ln:=⟨none,.store (.d t) (.t i) (.t j),none,[],[]⟩
def nb (d k:Nat) (t:Ty):Ln:=⟨some d,.newbox k t [],none,[],[]⟩
def bx (d k i:Nat):Ln:=⟨some d,.box k (.t i),none,[],[]⟩
def td (l:List Nat):Cd:=.tidy l [] [] none
abbrev Z0:Ty:=.st [(.sl (.arr 4 (.int .i64))),(.sl (.int .i64)),(.sl (.int .i64)),(.sl (.int .i64)),(.sl .bool),(.int .i64),(.int .i64),(.int .i64)]
abbrev Zb:Ty:=.st [(.int .i64),(.int .i64)]
abbrev Za:Ty:=.st [Z0,(.sl (.int .i64)),(.sl (.int .i64)),(.sl Zb)]
abbrev Z6:Ty:=.st [(.int .i64),(.int .i64),(.int .i64),(.int .i64),(.int .i64),(.sl (.int .i64)),(.int .i64),(.sl (.int .i64)),(.int .i64)]
abbrev Kq:Ty:=.st [(.int .i64),Zb]
abbrev Xg:Ty:=.st [(.int .i64),(.int .i64),(.int .i64),(.sl (.int .i64)),(.sl Kq),(.int .i64)]
abbrev Zi:Ty:=.st [(.int .i64),(.int .i64),(.int .i64),Zb]
abbrev O7:Ty:=.st [(.int .i64),(.sl .str),(.int .i64),(.int .i64),(.int .i64),Z6,(.sl Zb),(.int .i64),(.sl Zi),Xg,.bool,(.int .i64),(.int .i64),(.int .i64),(.sl Zb),(.sl (.int .i64)),(.int .i64)]
abbrev Un:Ty:=.st [(.int .i64),(.int .i64),(.int .i64),(.int .i64),(.int .i64),(.int .i64),(.int .i64)]
def BJb:Cd:=td [5,6]
def BJd:Cd:=td [7,8,9,10,11,12]
def BJf:Cd:=td [13,14,15,16,17,18]
def AWv:Cd:=td [19,20,21,22]
def AWw:Cd:=.skip
def AW0:Cd:=.exit 0
def AWu:Cd:=.cond (.t 23) (.seq (td [23]) (AWw)) (.seq (td [23]) (AW0))
def AWy:Cd:=td [26,27,28,29,30,31,32,33,34,35,36]
def AWz:Cd:=td [24,25]
def AWx:Cd:=.seq (.reg false [mv 24 4,
    bc 25 .add 24 1,
    mv 4 25]) (AWz)
def AWt:Cd:=.seq (.block 1 (.seq (.reg true [od 26 (.fieldAddr (.d Za) 3 (.t 3)) [2] [],
    od 27 (.load (.d (.sl Zb)) (.t 26)) [2] [],
    od 28 (.fieldAddr (.d Z0) 3 (.t 1)) [0] [],
    od 29 (.load (.d (.sl (.int .i64))) (.t 28)) [0] [],
    mv 30 4,
    ix 31 (.sl (.int .i64)) 29 30,
    ld 32 (.int .i64) 31,
    o_ 33 (.build Zb [(1,(.t 32))] []),
    od 34 (.slice 5 Zb [(.t 33)]) [] [5],
    od 35 (.append 6 Zb (.t 27) (.t 34)) [5] [6,9],
    od 36 (.fieldAddr (.d Za) 3 (.t 3)) [2] [],
    ⟨none,.store (.d (.sl Zb)) (.t 36) (.t 35),none,[],[2]⟩]) (AWy))) (AWx)
def AWs:Cd:=.tidy [] [(6,9)] [5] (some 10)
def BJi:Cd:=.seq (.seq (.seq (.seq (.reg false [mv 19 4,
    fa 20 Z0 3 1,
    o_ 21 (.load (.d (.sl (.int .i64))) (.t 20)),
    le 22 21,
    bi 23 .lss 19 22]) (AWv)) (AWu)) (AWt)) (AWs)
def BJh:Cd:=.block 0 (.loop (BJi))
def AW2:Cd:=td [37]
def AW1:Cd:=.ret
def BJg:Cd:=.seq (.seq (.reg false [ld 37 Za 3,
    sr Za 2 37]) (AW2)) (AW1)
def BJe:Cd:=.seq (.seq (.reg false [ci 4 0]) (BJh)) (BJg)
def BJc:Cd:=.seq (.seq (.reg false [fa 13 Za 2 3,
    o_ 14 (.load (.d (.sl (.int .i64))) (.t 13)),
    fa 15 Z0 2 1,
    o_ 16 (.load (.d (.sl (.int .i64))) (.t 15)),
    o_ 17 (.append 4 (.int .i64) (.t 14) (.t 16)),
    fa 18 Za 2 3,
    on_ (.store (.d (.sl (.int .i64))) (.t 18) (.t 17))]) (BJf)) (BJe)
def BJa:Cd:=.seq (.seq (.reg false [fa 7 Za 1 3,
    o_ 8 (.load (.d (.sl (.int .i64))) (.t 7)),
    fa 9 Z0 1 1,
    o_ 10 (.load (.d (.sl (.int .i64))) (.t 9)),
    o_ 11 (.append 3 (.int .i64) (.t 8) (.t 10)),
    fa 12 Za 1 3,
    on_ (.store (.d (.sl (.int .i64))) (.t 12) (.t 11))]) (BJd)) (BJc)
def BI9:Cd:=.seq (.seq (.reg false [ld 5 Z0 1,
    o_ 6 (.build Za [(0,(.t 5))] [([1],7),([2],8),([3],9)]),
    nb 3 2 Za,
    sr Za 3 6]) (BJb)) (BJa)
def J1.fn:Fn:=⟨1,[.cell 2 (.d Za)],.seq (.reg false [bx 1 0 0,
    nb 2 1 Za]) (BI9)⟩
def BJl:Cd:=td [3,4,5,6,7]
def BJn:Cd:=td [8,9,10,11,12]
def BJp:Cd:=td [13,14,15,16,17]
def BJr:Cd:=td [18]
def BJq:Cd:=.ret
def BJo:Cd:=.seq (.seq (.reg false [ld 18 Za 1,
    sr Za 2 18]) (BJr)) (BJq)
def BJm:Cd:=.seq (.seq (.reg false [o_ 13 (.slice 6 Zb []),
    fa 14 Za 3 1,
    ld 15 (.sl Zb) 14,
    o_ 16 (.append 7 Zb (.t 13) (.t 15)),
    fa 17 Za 3 1,
    sr (.sl Zb) 17 16]) (BJp)) (BJo)
def BJk:Cd:=.seq (.seq (.reg false [o_ 8 (.slice 4 (.int .i64) []),
    fa 9 Za 2 1,
    o_ 10 (.load (.d (.sl (.int .i64))) (.t 9)),
    o_ 11 (.append 5 (.int .i64) (.t 8) (.t 10)),
    fa 12 Za 2 1,
    on_ (.store (.d (.sl (.int .i64))) (.t 12) (.t 11))]) (BJn)) (BJm)
def BJj:Cd:=.seq (.seq (.reg false [o_ 3 (.slice 2 (.int .i64) []),
    fa 4 Za 1 1,
    o_ 5 (.load (.d (.sl (.int .i64))) (.t 4)),
    o_ 6 (.append 3 (.int .i64) (.t 3) (.t 5)),
    fa 7 Za 1 1,
    on_ (.store (.d (.sl (.int .i64))) (.t 7) (.t 6))]) (BJl)) (BJk)
def Qc.fn:Fn:=⟨1,[.cell 2 (.d Za)],.seq (.reg false [bx 1 0 0,
    nb 2 1 Za]) (BJj)⟩
def BIj:Cd:=td [12]
def BIn:Cd:=.skip
def AUh:Cd:=.exit 0
def AUa:Cd:=td [17,18,19]
def AUc:Cd:=td [20,21,22,23,24,25]
def AUe:Cd:=td [27,28,29,30,31,32]
def AUd:Cd:=.seq (.reg false [mv 27 5,
    mv 28 6,
    mv 29 7,
    o_ 30 (.build Zi [(0,(.c (.int .i64) (0:Int))),(1,(.t 28)),(2,(.t 29))] []),
    o_ 31 (.slice 2 Zi [(.t 30)]),
    o_ 32 (.append 3 Zi (.t 27) (.t 31)),
    mv 5 32]) (AUe)
def AUg:Cd:=.skip
def AUb:Cd:=.cond (.t 26) (.seq (td [26]) (AUd)) (.seq (td [26]) (AUg))
def AT9:Cd:=.seq (.seq (.reg false [fa 20 Za 1 2,
    o_ 21 (.load (.d (.sl (.int .i64))) (.t 20)),
    mv 22 6,
    ix 23 (.sl (.int .i64)) 21 22,
    ld 24 (.int .i64) 23,
    mv 25 7,
    bi 26 .neq 24 25]) (AUc)) (AUb)
def AUf:Cd:=td [33]
def AT8:Cd:=.seq (.reg false [bc 33 .add 15 1,
    mv 15 33]) (AUf)
def BIm:Cd:=.seq (.block 1 (.seq (.seq (.reg false [mv 17 15,
    ix 18 (.sl (.int .i64)) 13 15,
    ld 19 (.int .i64) 18,
    mv 6 17,
    mv 7 19]) (AUa)) (AT9))) (AT8)
def BIl:Cd:=.seq (.cond (.t 16) (.seq (td [16]) (BIn)) (.seq (td [16]) (AUh))) (BIm)
def BIk:Cd:=.tidy [6,7] [(3,9)] [2] (some 10)
def ARj:Cd:=.seq (.seq (.reg false [bi 16 .lss 15 14]) (BIl)) (BIk)
def BIi:Cd:=.block 0 (.loop (ARj))
def AUj:Cd:=td [34]
def AUn:Cd:=.skip
def AUx:Cd:=.exit 2
def AUq:Cd:=td [39,40,41]
def AUs:Cd:=td [42,43,44,45,46,47]
def AUu:Cd:=td [49,50,51,52,53,54]
def AUt:Cd:=.seq (.reg false [mv 49 5,
    mv 50 8,
    mv 51 9,
    o_ 52 (.build Zi [(0,(.c (.int .i64) (1:Int))),(1,(.t 50)),(2,(.t 51))] []),
    o_ 53 (.slice 4 Zi [(.t 52)]),
    o_ 54 (.append 5 Zi (.t 49) (.t 53)),
    mv 5 54]) (AUu)
def AUw:Cd:=.skip
def AUr:Cd:=.cond (.t 48) (.seq (td [48]) (AUt)) (.seq (td [48]) (AUw))
def AUp:Cd:=.seq (.seq (.reg false [fa 42 Za 2 2,
    o_ 43 (.load (.d (.sl (.int .i64))) (.t 42)),
    mv 44 8,
    ix 45 (.sl (.int .i64)) 43 44,
    ld 46 (.int .i64) 45,
    mv 47 9,
    bi 48 .neq 46 47]) (AUs)) (AUr)
def AUv:Cd:=td [55]
def AUo:Cd:=.seq (.reg false [bc 55 .add 37 1,
    mv 37 55]) (AUv)
def AUm:Cd:=.seq (.block 3 (.seq (.seq (.reg false [mv 39 37,
    ix 40 (.sl (.int .i64)) 35 37,
    ld 41 (.int .i64) 40,
    mv 8 39,
    mv 9 41]) (AUq)) (AUp))) (AUo)
def AUl:Cd:=.seq (.cond (.t 38) (.seq (td [38]) (AUn)) (.seq (td [38]) (AUx))) (AUm)
def AUk:Cd:=.tidy [8,9] [(5,9)] [4] (some 10)
def ALp:Cd:=.seq (.seq (.reg false [bi 38 .lss 37 36]) (AUl)) (AUk)
def AUi:Cd:=.block 2 (.loop (ALp))
def AUz:Cd:=td [56]
def AU3:Cd:=.skip
def AVd:Cd:=.exit 4
def AU6:Cd:=td [61,62,63]
def AU8:Cd:=td [64,65,66,67,68,69]
def AVa:Cd:=td [71,72,73,74,75,76]
def AU9:Cd:=.seq (.reg false [mv 71 5,
    mv 72 10,
    ld 73 Zb 11,
    o_ 74 (.build Zi [(0,(.c (.int .i64) (2:Int))),(1,(.t 72)),(3,(.t 73))] []),
    o_ 75 (.slice 7 Zi [(.t 74)]),
    o_ 76 (.append 8 Zi (.t 71) (.t 75)),
    mv 5 76]) (AVa)
def AVc:Cd:=.skip
def AU7:Cd:=.cond (.t 70) (.seq (td [70]) (AU9)) (.seq (td [70]) (AVc))
def AU5:Cd:=.seq (.seq (.reg true [od 64 (.fieldAddr (.d Za) 3 (.t 2)) [0] [],
    od 65 (.load (.d (.sl Zb)) (.t 64)) [0] [],
    mv 66 10,
    ix 67 (.sl Zb) 65 66,
    ld 68 Zb 67,
    od 69 (.load (.d Zb) (.t 11)) [6] [],
    o_ 70 (.eqs Zb true (.t 68) (.t 69))]) (AU8)) (AU7)
def AVb:Cd:=td [77]
def AU4:Cd:=.seq (.reg false [bc 77 .add 59 1,
    mv 59 77]) (AVb)
def AU2:Cd:=.seq (.block 5 (.seq (.seq (.reg false [mv 61 59,
    ix 62 (.sl Zb) 57 59,
    ld 63 Zb 62,
    nb 11 6 Zb,
    mv 10 61,
    sr Zb 11 63]) (AU6)) (AU5))) (AU4)
def AU1:Cd:=.seq (.cond (.t 60) (.seq (td [60]) (AU3)) (.seq (td [60]) (AVd))) (AU2)
def AU0:Cd:=.tidy [10,11] [(8,9)] [6,7] (some 10)
def ALr:Cd:=.seq (.seq (.reg false [bi 60 .lss 59 58]) (AU1)) (AU0)
def AUy:Cd:=.block 4 (.loop (ALr))
def AVf:Cd:=td [78]
def AVe:Cd:=.ret
def ALq:Cd:=.seq (.seq (.reg false [mv 78 5,
    mv 4 78]) (AVf)) (AVe)
def ALo:Cd:=.seq (.seq (.seq (.reg false [fa 56 Za 3 3,
    ld 57 (.sl Zb) 56,
    le 58 57,
    ci 59 0]) (AUz)) (AUy)) (ALq)
def ARi:Cd:=.seq (.seq (.seq (.reg false [fa 34 Za 2 3,
    o_ 35 (.load (.d (.sl (.int .i64))) (.t 34)),
    le 36 35,
    ci 37 0]) (AUj)) (AUi)) (ALo)
def BIh:Cd:=.seq (.seq (.seq (.reg false [fa 12 Za 1 3,
    o_ 13 (.load (.d (.sl (.int .i64))) (.t 12)),
    le 14 13,
    ci 15 0]) (BIj)) (BIi)) (ARi)
def BIg:Cd:=.seq (.reg false [o_ 5 (.mknil 9 Zi)]) (BIh)
def Z3.fn:Fn:=⟨2,[.tmp 4],.seq (.reg false [bx 2 0 0,
    bx 3 1 1,
    o_ 4 (.move (.c (.sl Zi) []))]) (BIg)⟩
def BL5:Cd:=td [3,4,5,6,7,8,9,10,11,12,13,14]
def BL7:Cd:=td [15]
def BL6:Cd:=.ret
def BL4:Cd:=.seq (.seq (.reg false [ld 15 Za 1,
    sr Za 2 15]) (BL7)) (BL6)
def BL3:Cd:=.seq (.seq (.reg true [od 3 (.fieldAddr (.d Za) 1 (.t 1)) [0] [],
    od 4 (.load (.d (.sl (.int .i64))) (.t 3)) [0] [],
    od 5 (.call (.f 57) [(.t 4)] [.d (.sl (.int .i64))] [((0,[]),2)] false) [] [2],
    od 6 (.fieldAddr (.d Za) 2 (.t 1)) [0] [],
    od 7 (.load (.d (.sl (.int .i64))) (.t 6)) [0] [],
    od 8 (.call (.f 57) [(.t 7)] [.d (.sl (.int .i64))] [((0,[]),3)] false) [] [3],
    od 9 (.fieldAddr (.d Za) 3 (.t 1)) [0] [],
    od 10 (.load (.d (.sl Zb)) (.t 9)) [0] [],
    od 11 (.call (.f 58) [(.t 10)] [.d (.sl Zb)] [((0,[]),4)] false) [] [4],
    od 12 (.fieldAddr (.d Za) 1 (.t 1)) [0] [],
    ⟨none,.store (.d (.sl (.int .i64))) (.t 12) (.t 5),none,[],[0]⟩,
    od 13 (.fieldAddr (.d Za) 2 (.t 1)) [0] [],
    ⟨none,.store (.d (.sl (.int .i64))) (.t 13) (.t 8),none,[],[0]⟩,
    od 14 (.fieldAddr (.d Za) 3 (.t 1)) [0] [],
    ⟨none,.store (.d (.sl Zb)) (.t 14) (.t 11),none,[],[0]⟩]) (BL5)) (BL4)
def Jh.fn:Fn:=⟨1,[.cell 2 (.d Za)],.seq (.reg false [bx 1 0 0,
    nb 2 1 Za]) (BL3)⟩
def BJu:Cd:=td [8,9]
def BJ1:Cd:=.skip
def AXc:Cd:=.exit 0
def AW5:Cd:=td [14,15]
def AW7:Cd:=td [16,17]
def AW9:Cd:=td [19,20,21,22,23,24,25]
def AW8:Cd:=.seq (.reg true [od 19 (.load (.d Za) (.t 5)) [2] [],
    od 20 (.fieldAddr (.d O7) 8 (.t 7)) [3] [],
    od 21 (.load (.d (.sl Zi)) (.t 20)) [3] [],
    od 22 (.fieldAddr (.d O7) 4 (.t 7)) [3] [],
    od 23 (.load (.d (.int .i64)) (.t 22)) [3] [],
    o_ 24 (.slx Zi (.t 21) (some (.t 23)) none),
    o_ 25 (.call (.f 12) [(.t 19),(.t 24)] [.d Za] [] false),
    ⟨none,.store (.d Za) (.t 5) (.t 25),none,[],[2]⟩]) (AW9)
def AXb:Cd:=.skip
def AW6:Cd:=.cond (.t 18) (.seq (td [18]) (AW8)) (.seq (td [18]) (AXb))
def AW4:Cd:=.seq (.seq (.reg false [fa 16 O7 3 7,
    ld 17 (.int .i64) 16,
    bc 18 .eql 17 5]) (AW7)) (AW6)
def AXa:Cd:=td [26]
def AW3:Cd:=.seq (.reg false [bc 26 .add 12 1,
    mv 12 26]) (AXa)
def BJ0:Cd:=.seq (.block 1 (.seq (.seq (.reg false [ix 14 (.sl O7) 10 12,
    ld 15 O7 14,
    nb 7 3 O7,
    sr O7 7 15]) (AW5)) (AW4))) (AW3)
def BJz:Cd:=.seq (.cond (.t 13) (.seq (td [13]) (BJ1)) (.seq (td [13]) (AXc))) (BJ0)
def BJy:Cd:=.tidy [7] [] [] (some 3)
def BJx:Cd:=.seq (.seq (.reg false [bi 13 .lss 12 11]) (BJz)) (BJy)
def BJw:Cd:=.block 0 (.loop (BJx))
def AXe:Cd:=td [27]
def AXd:Cd:=.ret
def BJv:Cd:=.seq (.seq (.reg false [ld 27 Za 5,
    sr Za 4 27]) (AXe)) (AXd)
def BJt:Cd:=.seq (.seq (.reg false [mv 10 1,
    le 11 10,
    ci 12 0]) (BJw)) (BJv)
def BJs:Cd:=.seq (.seq (.reg false [ld 8 Za 2,
    o_ 9 (.call (.f 30) [(.t 8)] [.d Za] [] false),
    nb 5 2 Za,
    sr Za 5 9]) (BJu)) (BJt)
def Ha.fn:Fn:=⟨2,[.cell 4 (.d Za)],.seq (.reg false [bx 2 0 0,
    nb 4 1 Za]) (BJs)⟩
def BI1:Cd:=td [6,7,8,9]
def BI3:Cd:=.ret
def BI2:Cd:=.seq (.reg false [o_ 4 (.move (.c .bool false))]) (BI3)
def BI4:Cd:=.skip
def BI0:Cd:=.cond (.t 10) (.seq (td [10]) (BI2)) (.seq (td [10]) (BI4))
def AWh:Cd:=td [11,12,13]
def AWi:Cd:=.skip
def AWq:Cd:=.exit 0
def AWg:Cd:=.cond (.t 14) (.seq (td [14]) (AWi)) (.seq (td [14]) (AWq))
def AWl:Cd:=td [17,18,19,20,21,22,23,24]
def AWn:Cd:=.ret
def AWm:Cd:=.seq (.reg false [o_ 4 (.move (.c .bool false))]) (AWn)
def AWo:Cd:=.skip
def AWk:Cd:=.cond (.t 25) (.seq (td [25]) (AWm)) (.seq (td [25]) (AWo))
def AWp:Cd:=td [15,16]
def AWj:Cd:=.seq (.reg false [mv 15 5,
    bc 16 .add 15 1,
    mv 5 16]) (AWp)
def AWf:Cd:=.seq (.block 1 (.seq (.seq (.reg true [mv 17 0,
    mv 18 5,
    ix 19 (.sl Zi) 17 18,
    ld 20 Zi 19,
    mv 21 1,
    mv 22 5,
    ix 23 (.sl Zi) 21 22,
    ld 24 Zi 23,
    o_ 25 (.eqs Zi true (.t 20) (.t 24))]) (AWl)) (AWk))) (AWj)
def AWe:Cd:=.tidy [] [] [] (some 0)
def ARl:Cd:=.seq (.seq (.seq (.seq (.reg false [mv 11 5,
    mv 12 0,
    le 13 12,
    bi 14 .lss 11 13]) (AWh)) (AWg)) (AWf)) (AWe)
def BI5:Cd:=.block 0 (.loop (ARl))
def AWr:Cd:=.ret
def ARk:Cd:=.seq (.reg false [o_ 4 (.move (.c .bool true))]) (AWr)
def BIz:Cd:=.seq (.seq (.reg false [ci 5 0]) (BI5)) (ARk)
def BIy:Cd:=.seq (.seq (.seq (.reg false [mv 6 0,
    le 7 6,
    mv 8 1,
    le 9 8,
    bi 10 .neq 7 9]) (BI1)) (BI0)) (BIz)
def Z1.fn:Fn:=⟨2,[.tmp 4],.seq (.reg false [o_ 4 (.move (.c .bool false))]) (BIy)⟩
def BLq:Cd:=td [6,7,8,9]
def BLs:Cd:=.ret
def BLr:Cd:=.seq (.reg false [o_ 4 (.move (.c .bool false))]) (BLs)
def BLt:Cd:=.skip
def BLp:Cd:=.cond (.t 10) (.seq (td [10]) (BLr)) (.seq (td [10]) (BLt))
def BAl:Cd:=td [11,12,13]
def BAm:Cd:=.skip
def BAu:Cd:=.exit 0
def BAk:Cd:=.cond (.t 14) (.seq (td [14]) (BAm)) (.seq (td [14]) (BAu))
def BAp:Cd:=td [17,18,19,20,21,22,23,24]
def BAr:Cd:=.ret
def BAq:Cd:=.seq (.reg false [o_ 4 (.move (.c .bool false))]) (BAr)
def BAs:Cd:=.skip
def BAo:Cd:=.cond (.t 25) (.seq (td [25]) (BAq)) (.seq (td [25]) (BAs))
def BAt:Cd:=td [15,16]
def BAn:Cd:=.seq (.reg false [mv 15 5,
    bc 16 .add 15 1,
    mv 5 16]) (BAt)
def BAj:Cd:=.seq (.block 1 (.seq (.seq (.reg true [mv 17 0,
    mv 18 5,
    ix 19 (.sl (.int .i64)) 17 18,
    ld 20 (.int .i64) 19,
    mv 21 1,
    mv 22 5,
    ix 23 (.sl (.int .i64)) 21 22,
    ld 24 (.int .i64) 23,
    bi 25 .neq 20 24]) (BAp)) (BAo))) (BAn)
def BAi:Cd:=.tidy [] [] [] (some 0)
def ARs:Cd:=.seq (.seq (.seq (.seq (.reg false [mv 11 5,
    mv 12 0,
    le 13 12,
    bi 14 .lss 11 13]) (BAl)) (BAk)) (BAj)) (BAi)
def BLu:Cd:=.block 0 (.loop (ARs))
def BAv:Cd:=.ret
def ARr:Cd:=.seq (.reg false [o_ 4 (.move (.c .bool true))]) (BAv)
def BLo:Cd:=.seq (.seq (.reg false [ci 5 0]) (BLu)) (ARr)
def BLn:Cd:=.seq (.seq (.seq (.reg false [mv 6 0,
    le 7 6,
    mv 8 1,
    le 9 8,
    bi 10 .neq 7 9]) (BLq)) (BLp)) (BLo)
def Zx.fn:Fn:=⟨2,[.tmp 4],.seq (.reg false [o_ 4 (.move (.c .bool false))]) (BLn)⟩
def BLy:Cd:=td [6,7,8,9]
def BL0:Cd:=.ret
def BLz:Cd:=.seq (.reg false [o_ 4 (.move (.c .bool false))]) (BL0)
def BL1:Cd:=.skip
def BLx:Cd:=.cond (.t 10) (.seq (td [10]) (BLz)) (.seq (td [10]) (BL1))
def BAz:Cd:=td [11,12,13]
def BA0:Cd:=.skip
def BA8:Cd:=.exit 0
def BAy:Cd:=.cond (.t 14) (.seq (td [14]) (BA0)) (.seq (td [14]) (BA8))
def BA3:Cd:=td [17,18,19,20,21,22,23,24]
def BA5:Cd:=.ret
def BA4:Cd:=.seq (.reg false [o_ 4 (.move (.c .bool false))]) (BA5)
def BA6:Cd:=.skip
def BA2:Cd:=.cond (.t 25) (.seq (td [25]) (BA4)) (.seq (td [25]) (BA6))
def BA7:Cd:=td [15,16]
def BA1:Cd:=.seq (.reg false [mv 15 5,
    bc 16 .add 15 1,
    mv 5 16]) (BA7)
def BAx:Cd:=.seq (.block 1 (.seq (.seq (.reg true [mv 17 0,
    mv 18 5,
    ix 19 (.sl Zb) 17 18,
    ld 20 Zb 19,
    mv 21 1,
    mv 22 5,
    ix 23 (.sl Zb) 21 22,
    ld 24 Zb 23,
    o_ 25 (.eqs Zb true (.t 20) (.t 24))]) (BA3)) (BA2))) (BA1)
def BAw:Cd:=.tidy [] [] [] (some 0)
def ARu:Cd:=.seq (.seq (.seq (.seq (.reg false [mv 11 5,
    mv 12 0,
    le 13 12,
    bi 14 .lss 11 13]) (BAz)) (BAy)) (BAx)) (BAw)
def BL2:Cd:=.block 0 (.loop (ARu))
def BA9:Cd:=.ret
def ARt:Cd:=.seq (.reg false [o_ 4 (.move (.c .bool true))]) (BA9)
def BLw:Cd:=.seq (.seq (.reg false [ci 5 0]) (BL2)) (ARt)
def BLv:Cd:=.seq (.seq (.seq (.reg false [mv 6 0,
    le 7 6,
    mv 8 1,
    le 9 8,
    bi 10 .neq 7 9]) (BLy)) (BLx)) (BLw)
def Zy.fn:Fn:=⟨2,[.tmp 4],.seq (.reg false [o_ 4 (.move (.c .bool false))]) (BLv)⟩
def BIq:Cd:=td [9,10]
def BIs:Cd:=td [11,12]
def BIv:Cd:=td [13,14,15,16,17,18,19,20,21,22,23,24,25,26,27,28,29,30,31,32,33,34,35,36,37,38,39,40,41,42,43,44,45,46,47,48]
def BIx:Cd:=.ret
def BIw:Cd:=.seq (.reg false [o_ 4 (.move (.c .bool false))]) (BIx)
def AVj:Cd:=.skip
def BIu:Cd:=.cond (.t 49) (.seq (td [49]) (BIw)) (.seq (td [49]) (AVj))
def AVo:Cd:=td [50,51,52,53]
def AVp:Cd:=.skip
def AVx:Cd:=.exit 0
def AVn:Cd:=.cond (.t 54) (.seq (td [54]) (AVp)) (.seq (td [54]) (AVx))
def AVs:Cd:=td [57,58,59,60,61,62,63,64,65,66]
def AVu:Cd:=.ret
def AVt:Cd:=.seq (.reg false [o_ 4 (.move (.c .bool false))]) (AVu)
def AVv:Cd:=.skip
def AVr:Cd:=.cond (.t 67) (.seq (td [67]) (AVt)) (.seq (td [67]) (AVv))
def AVw:Cd:=td [55,56]
def AVq:Cd:=.seq (.reg false [mv 55 7,
    bc 56 .add 55 1,
    mv 7 56]) (AVw)
def AVm:Cd:=.seq (.block 1 (.seq (.seq (.reg true [od 57 (.fieldAddr (.d Z0) 0 (.t 5)) [2] [],
    od 58 (.load (.d (.sl (.arr 4 (.int .i64)))) (.t 57)) [2] [],
    mv 59 7,
    o_ 60 (.index (.sl (.arr 4 (.int .i64))) (.t 58) (.t 59)),
    o_ 61 (.load (.d (.arr 4 (.int .i64))) (.t 60)),
    od 62 (.fieldAddr (.d Z0) 0 (.t 6)) [3] [],
    od 63 (.load (.d (.sl (.arr 4 (.int .i64)))) (.t 62)) [3] [],
    mv 64 7,
    o_ 65 (.index (.sl (.arr 4 (.int .i64))) (.t 63) (.t 64)),
    o_ 66 (.load (.d (.arr 4 (.int .i64))) (.t 65)),
    o_ 67 (.eqs (.arr 4 (.int .i64)) true (.t 61) (.t 66))]) (AVs)) (AVr))) (AVq)
def AVl:Cd:=.tidy [] [] [] (some 4)
def ALt:Cd:=.seq (.seq (.seq (.seq (.reg false [mv 50 7,
    fa 51 Z0 0 5,
    o_ 52 (.load (.d (.sl (.arr 4 (.int .i64)))) (.t 51)),
    le 53 52,
    bi 54 .lss 50 53]) (AVo)) (AVn)) (AVm)) (AVl)
def AVk:Cd:=.block 0 (.loop (ALt))
def AV2:Cd:=td [68,69,70,71]
def AV3:Cd:=.skip
def AWb:Cd:=.exit 2
def AV1:Cd:=.cond (.t 72) (.seq (td [72]) (AV3)) (.seq (td [72]) (AWb))
def AV6:Cd:=td [75,76,77,78,79,80,81,82,83,84]
def AV8:Cd:=.ret
def AV7:Cd:=.seq (.reg false [o_ 4 (.move (.c .bool false))]) (AV8)
def AV9:Cd:=.skip
def AV5:Cd:=.cond (.t 85) (.seq (td [85]) (AV7)) (.seq (td [85]) (AV9))
def AWa:Cd:=td [73,74]
def AV4:Cd:=.seq (.reg false [mv 73 8,
    bc 74 .add 73 1,
    mv 8 74]) (AWa)
def AV0:Cd:=.seq (.block 3 (.seq (.seq (.reg true [od 75 (.fieldAddr (.d Z0) 4 (.t 5)) [2] [],
    od 76 (.load (.d (.sl .bool)) (.t 75)) [2] [],
    mv 77 8,
    ix 78 (.sl .bool) 76 77,
    ld 79 .bool 78,
    od 80 (.fieldAddr (.d Z0) 4 (.t 6)) [3] [],
    od 81 (.load (.d (.sl .bool)) (.t 80)) [3] [],
    mv 82 8,
    ix 83 (.sl .bool) 81 82,
    ld 84 .bool 83,
    o_ 85 (.eqs .bool true (.t 79) (.t 84))]) (AV6)) (AV5))) (AV4)
def AVz:Cd:=.tidy [] [] [] (some 4)
def ALv:Cd:=.seq (.seq (.seq (.seq (.reg false [mv 68 8,
    fa 69 Z0 4 5,
    ld 70 (.sl .bool) 69,
    le 71 70,
    bi 72 .lss 68 71]) (AV2)) (AV1)) (AV0)) (AVz)
def AVy:Cd:=.block 2 (.loop (ALv))
def AWd:Cd:=td [86,87,88,89,90,91,92,93,94,95,96,97,98,99,100,101,102,103,104,105,106,107,108,109,110,111,112,113,114,115,116,117,118,119,120,121,122,123,124,125]
def AWc:Cd:=.ret
def ALu:Cd:=.seq (.seq (.reg false [fa 86 Z0 1 5,
    o_ 87 (.load (.d (.sl (.int .i64))) (.t 86)),
    fa 88 Z0 1 6,
    o_ 89 (.load (.d (.sl (.int .i64))) (.t 88)),
    o_ 90 (.call (.f 28) [(.t 87),(.t 89)] [.d .bool] [] false),
    mv 91 90,
    og 92 (.fieldAddr (.d Z0) 2 (.t 5)) 91 true,
    og 93 (.load (.d (.sl (.int .i64))) (.t 92)) 91 true,
    og 94 (.fieldAddr (.d Z0) 2 (.t 6)) 91 true,
    og 95 (.load (.d (.sl (.int .i64))) (.t 94)) 91 true,
    og 96 (.call (.f 28) [(.t 93),(.t 95)] [.d .bool] [] false) 91 true,
    o_ 97 (.pick (.t 91) (.t 96) (.c .bool false)),
    mv 98 97,
    og 99 (.fieldAddr (.d Z0) 3 (.t 5)) 98 true,
    og 100 (.load (.d (.sl (.int .i64))) (.t 99)) 98 true,
    og 101 (.fieldAddr (.d Z0) 3 (.t 6)) 98 true,
    og 102 (.load (.d (.sl (.int .i64))) (.t 101)) 98 true,
    og 103 (.call (.f 28) [(.t 100),(.t 102)] [.d .bool] [] false) 98 true,
    o_ 104 (.pick (.t 98) (.t 103) (.c .bool false)),
    mv 105 104,
    og 106 (.fieldAddr (.d Za) 1 (.t 2)) 105 true,
    og 107 (.load (.d (.sl (.int .i64))) (.t 106)) 105 true,
    og 108 (.fieldAddr (.d Za) 1 (.t 3)) 105 true,
    og 109 (.load (.d (.sl (.int .i64))) (.t 108)) 105 true,
    og 110 (.call (.f 28) [(.t 107),(.t 109)] [.d .bool] [] false) 105 true,
    o_ 111 (.pick (.t 105) (.t 110) (.c .bool false)),
    mv 112 111,
    og 113 (.fieldAddr (.d Za) 2 (.t 2)) 112 true,
    og 114 (.load (.d (.sl (.int .i64))) (.t 113)) 112 true,
    og 115 (.fieldAddr (.d Za) 2 (.t 3)) 112 true,
    og 116 (.load (.d (.sl (.int .i64))) (.t 115)) 112 true,
    og 117 (.call (.f 28) [(.t 114),(.t 116)] [.d .bool] [] false) 112 true,
    o_ 118 (.pick (.t 112) (.t 117) (.c .bool false)),
    mv 119 118,
    og 120 (.fieldAddr (.d Za) 3 (.t 2)) 119 true,
    og 121 (.load (.d (.sl Zb)) (.t 120)) 119 true,
    og 122 (.fieldAddr (.d Za) 3 (.t 3)) 119 true,
    og 123 (.load (.d (.sl Zb)) (.t 122)) 119 true,
    og 124 (.call (.f 29) [(.t 121),(.t 123)] [.d .bool] [] false) 119 true,
    o_ 125 (.pick (.t 119) (.t 124) (.c .bool false)),
    mv 4 125]) (AWd)) (AWc)
def ALs:Cd:=.seq (.seq (.reg false [ci 8 0]) (AVy)) (ALu)
def BIt:Cd:=.seq (.seq (.reg false [ci 7 0]) (AVk)) (ALs)
def BIr:Cd:=.seq (.seq (.seq (.reg false [fa 13 Z0 5 5,
    ld 14 (.int .i64) 13,
    fa 15 Z0 5 6,
    ld 16 (.int .i64) 15,
    bi 17 .neq 14 16,
    mv 18 17,
    og 19 (.fieldAddr (.d Z0) 6 (.t 5)) 18 false,
    og 20 (.load (.d (.int .i64)) (.t 19)) 18 false,
    og 21 (.fieldAddr (.d Z0) 6 (.t 6)) 18 false,
    og 22 (.load (.d (.int .i64)) (.t 21)) 18 false,
    og 23 (.bin .neq (.t 20) (.t 22)) 18 false,
    o_ 24 (.pick (.t 18) (.c .bool true) (.t 23)),
    mv 25 24,
    og 26 (.fieldAddr (.d Z0) 7 (.t 5)) 25 false,
    og 27 (.load (.d (.int .i64)) (.t 26)) 25 false,
    og 28 (.fieldAddr (.d Z0) 7 (.t 6)) 25 false,
    og 29 (.load (.d (.int .i64)) (.t 28)) 25 false,
    og 30 (.bin .neq (.t 27) (.t 29)) 25 false,
    o_ 31 (.pick (.t 25) (.c .bool true) (.t 30)),
    mv 32 31,
    og 33 (.fieldAddr (.d Z0) 0 (.t 5)) 32 false,
    og 34 (.load (.d (.sl (.arr 4 (.int .i64)))) (.t 33)) 32 false,
    og 35 (.len (.t 34)) 32 false,
    og 36 (.fieldAddr (.d Z0) 0 (.t 6)) 32 false,
    og 37 (.load (.d (.sl (.arr 4 (.int .i64)))) (.t 36)) 32 false,
    og 38 (.len (.t 37)) 32 false,
    og 39 (.bin .neq (.t 35) (.t 38)) 32 false,
    o_ 40 (.pick (.t 32) (.c .bool true) (.t 39)),
    mv 41 40,
    og 42 (.fieldAddr (.d Z0) 4 (.t 5)) 41 false,
    og 43 (.load (.d (.sl .bool)) (.t 42)) 41 false,
    og 44 (.len (.t 43)) 41 false,
    og 45 (.fieldAddr (.d Z0) 4 (.t 6)) 41 false,
    og 46 (.load (.d (.sl .bool)) (.t 45)) 41 false,
    og 47 (.len (.t 46)) 41 false,
    og 48 (.bin .neq (.t 44) (.t 47)) 41 false,
    o_ 49 (.pick (.t 41) (.c .bool true) (.t 48))]) (BIv)) (BIu)) (BIt)
def BIp:Cd:=.seq (.seq (.reg false [fa 11 Za 0 3,
    ld 12 Z0 11,
    nb 6 3 Z0,
    sr Z0 6 12]) (BIs)) (BIr)
def BIo:Cd:=.seq (.seq (.reg false [fa 9 Za 0 2,
    ld 10 Z0 9,
    nb 5 2 Z0,
    sr Z0 5 10]) (BIq)) (BIp)
def Zn.fn:Fn:=⟨2,[.tmp 4],.seq (.reg false [bx 2 0 0,
    bx 3 1 1,
    o_ 4 (.move (.c .bool false))]) (BIo)⟩
def BI8:Cd:=td [5,6,7,8]
def BI7:Cd:=.ret
def BI6:Cd:=.seq (.seq (.reg false [ld 5 Za 2,
    ld 6 Zi 3,
    o_ 7 (.slice 3 Zi [(.t 6)]),
    o_ 8 (.call (.f 12) [(.t 5),(.t 7)] [.d Za] [] false),
    sr Za 4 8]) (BI8)) (BI7)
def Gn.fn:Fn:=⟨2,[.cell 4 (.d Za)],.seq (.reg false [bx 2 0 0,
    bx 3 1 1,
    nb 4 2 Za]) (BI6)⟩
def BX4:Cd:=td [6,7,8,9,10,11,12]
def BX6:Cd:=td [13,14]
def BX8:Cd:=td [15,16,17]
def BYa:Cd:=td [18,19,20]
def BO9:Cd:=td [21,22,23,24]
def BPb:Cd:=td [25,26,27]
def BPe:Cd:=td [28,29]
def BPg:Cd:=.ret
def BPf:Cd:=.seq (.reg false [o_ 0 (.move (.c .bool false))]) (BPg)
def BPh:Cd:=.skip
def BPd:Cd:=.cond (.t 30) (.seq (td [30]) (BPf)) (.seq (td [30]) (BPh))
def BPj:Cd:=td [31,32,33,34,35]
def BPl:Cd:=td [36,37,38]
def BPn:Cd:=td [39,40,41,42,43,44,45,46,47,48,49,50,51,52,53,54,55,56,57,58,59,60,61,62,63,64,65,66,67,68,69,70,71,72,73,74,75,76,77,78,79,80,81,82,83,84,85]
def BPm:Cd:=.ret
def BPk:Cd:=.seq (.seq (.reg true [mv 39 3,
    o_ 40 (.build Zi [(0,(.c (.int .i64) (0:Int))),(1,(.c (.int .i64) (1:Int))),(2,(.c (.int .i64) (1:Int)))] []),
    o_ 41 (.build Zi [(0,(.c (.int .i64) (1:Int))),(2,(.c (.int .i64) (9:Int)))] []),
    o_ 42 (.build Zb [(0,(.c (.int .i64) (1:Int)))] []),
    o_ 43 (.build Zi [(0,(.c (.int .i64) (2:Int))),(3,(.t 42))] []),
    od 44 (.slice 9 Zi [(.t 40),(.t 41),(.t 43)]) [] [9],
    od 45 (.call (.f 13) [(.t 39),(.t 44)] [.d .bool] [] false) [9] [],
    mv 46 45,
    ogd 47 (.load (.d Za) (.t 1)) 46 true [5],
    og 48 (.move (.t 3)) 46 true,
    og 49 (.call (.f 12) [(.t 47),(.t 48)] [.d Za] [] false) 46 true,
    ogd 50 (.load (.d Za) (.t 2)) 46 true [6],
    ogd 51 (.call (.f 11) [(.t 49),(.t 50)] [.d .bool] [] false) 46 true [10,11,12],
    o_ 52 (.pick (.t 46) (.t 51) (.c .bool false)),
    mv 53 52,
    ogd 54 (.load (.d Za) (.t 1)) 53 true [5],
    og 55 (.move (.t 3)) 53 true,
    og 56 (.index (.sl Zi) (.t 55) (.c (.int .i64) (1:Int))) 53 true,
    og 57 (.load (.d Zi) (.t 56)) 53 true,
    og 58 (.call (.f 14) [(.t 54),(.t 57)] [.d Za] [] false) 53 true,
    og 59 (.field Za 2 (.t 58)) 53 true,
    og 60 (.index (.sl (.int .i64)) (.t 59) (.c (.int .i64) (0:Int))) 53 true,
    og 61 (.load (.d (.int .i64)) (.t 60)) 53 true,
    og 62 (.bin .eql (.t 61) (.c (.int .i64) (9:Int))) 53 true,
    o_ 63 (.pick (.t 53) (.t 62) (.c .bool false)),
    mv 64 63,
    ogd 65 (.fieldAddr (.d Za) 1 (.t 5)) 64 true [8],
    ogd 66 (.load (.d (.sl (.int .i64))) (.t 65)) 64 true [8],
    og 67 (.index (.sl (.int .i64)) (.t 66) (.c (.int .i64) (1:Int))) 64 true,
    og 68 (.load (.d (.int .i64)) (.t 67)) 64 true,
    og 69 (.bin .eql (.t 68) (.c (.int .i64) (0:Int))) 64 true,
    o_ 70 (.pick (.t 64) (.t 69) (.c .bool false)),
    mv 71 70,
    ogd 72 (.fieldAddr (.d Za) 2 (.t 5)) 71 true [8],
    ogd 73 (.load (.d (.sl (.int .i64))) (.t 72)) 71 true [8],
    og 74 (.index (.sl (.int .i64)) (.t 73) (.c (.int .i64) (0:Int))) 71 true,
    og 75 (.load (.d (.int .i64)) (.t 74)) 71 true,
    og 76 (.bin .eql (.t 75) (.c (.int .i64) (9:Int))) 71 true,
    o_ 77 (.pick (.t 71) (.t 76) (.c .bool false)),
    mv 78 77,
    ogd 79 (.fieldAddr (.d Za) 3 (.t 5)) 78 true [8],
    ogd 80 (.load (.d (.sl Zb)) (.t 79)) 78 true [8],
    og 81 (.index (.sl Zb) (.t 80) (.c (.int .i64) (0:Int))) 78 true,
    og 82 (.fieldAddr (.d Zb) 0 (.t 81)) 78 true,
    og 83 (.load (.d (.int .i64)) (.t 82)) 78 true,
    og 84 (.bin .eql (.t 83) (.c (.int .i64) (1:Int))) 78 true,
    o_ 85 (.pick (.t 78) (.t 84) (.c .bool false)),
    mv 0 85]) (BPn)) (BPm)
def BPi:Cd:=.seq (.seq (.reg false [ld 36 Za 1,
    mv 37 4,
    o_ 38 (.call (.f 17) [(.t 36),(.t 37)] [.d Za] [] false),
    nb 5 8 Za,
    sr Za 5 38]) (BPl)) (BPk)
def BPc:Cd:=.seq (.seq (.reg false [mv 31 3,
    o_ 32 (.build O7 [(3,(.c (.int .i64) (5:Int))),(8,(.t 31)),(4,(.c (.int .i64) (1:Int)))] []),
    mv 33 3,
    o_ 34 (.build O7 [(3,(.c (.int .i64) (4:Int))),(8,(.t 33))] []),
    o_ 35 (.slice 7 O7 [(.t 32),(.t 34)]),
    mv 4 35]) (BPj)) (BPi)
def BPa:Cd:=.seq (.seq (.seq (.reg false [mv 28 3,
    le 29 28,
    bc 30 .neq 29 3]) (BPe)) (BPd)) (BPc)
def BYb:Cd:=.seq (.seq (.reg false [ld 25 Za 1,
    ld 26 Za 2,
    o_ 27 (.call (.f 10) [(.t 25),(.t 26)] [.d (.sl Zi)] [] false),
    mv 3 27]) (BPb)) (BPa)
def BX9:Cd:=.seq (.seq (.reg false [fa 21 Za 3 2,
    ld 22 (.sl Zb) 21,
    o_ 23 (.build Zb [(0,(.c (.int .i64) (1:Int)))] []),
    o_ 24 (.index (.sl Zb) (.t 22) (.c (.int .i64) (0:Int))),
    sr Zb 24 23]) (BO9)) (BYb)
def BX7:Cd:=.seq (.seq (.reg false [fa 18 Za 2 2,
    o_ 19 (.load (.d (.sl (.int .i64))) (.t 18)),
    o_ 20 (.index (.sl (.int .i64)) (.t 19) (.c (.int .i64) (0:Int))),
    on_ (.store (.d (.int .i64)) (.t 20) (.c (.int .i64) (9:Int)))]) (BYa)) (BX9)
def BX5:Cd:=.seq (.seq (.reg false [fa 15 Za 1 2,
    o_ 16 (.load (.d (.sl (.int .i64))) (.t 15)),
    o_ 17 (.index (.sl (.int .i64)) (.t 16) (.c (.int .i64) (1:Int))),
    on_ (.store (.d (.int .i64)) (.t 17) (.c (.int .i64) (1:Int)))]) (BX8)) (BX7)
def BX3:Cd:=.seq (.seq (.reg false [ld 13 Za 1,
    o_ 14 (.call (.f 16) [(.t 13)] [.d Za] [((0,[1]),10),((0,[2]),11),((0,[3]),12)] false),
    nb 2 6 Za,
    sr Za 2 14]) (BX6)) (BX5)
def BX2:Cd:=.seq (.seq (.reg false [o_ 6 (.make 0 (.arr 4 (.int .i64)) (.c (.int .i64) (2:Int))),
    o_ 7 (.slice 1 (.int .i64) [(.c (.int .i64) (0:Int)),(.c (.int .i64) (0:Int))]),
    o_ 8 (.slice 2 (.int .i64) [(.c (.int .i64) (5:Int)),(.c (.int .i64) (2:Int))]),
    o_ 9 (.slice 3 (.int .i64) [(.c (.int .i64) (0:Int))]),
    o_ 10 (.slice 4 .bool [(.c .bool false)]),
    o_ 11 (.build Z0 [(0,(.t 6)),(1,(.t 7)),(2,(.t 8)),(3,(.t 9)),(4,(.t 10)),(5,(.c (.int .i64) (4:Int))),(6,(.c (.int .i64) (2:Int))),(7,(.c (.int .i64) (1:Int)))] []),
    o_ 12 (.call (.f 15) [(.t 11)] [.d Za] [] false),
    nb 1 5 Za,
    sr Za 1 12]) (BX4)) (BX3)
def Xy.fn:Fn:=⟨0,[.tmp 0],.seq (.reg false [o_ 0 (.move (.c .bool false))]) (BX2)⟩
def BYe:Cd:=td [4,5]
def BYg:Cd:=td [6,7,8,9,10,11,12,13,14,15,16,17,18,19,20,21,22,23,24,25,26,27,28,29,30,31,32,33,34,35,36,37,38,39,40,41,42,43,44,45,46,47,48,49,50,51]
def BYf:Cd:=.ret
def BYd:Cd:=.seq (.seq (.reg false [fa 6 Z0 0 3,
    o_ 7 (.load (.d (.sl (.arr 4 (.int .i64)))) (.t 6)),
    le 8 7,
    bc 9 .leq 8 20,
    mv 10 9,
    og 11 (.fieldAddr (.d Z0) 1 (.t 3)) 10 true,
    og 12 (.load (.d (.sl (.int .i64))) (.t 11)) 10 true,
    og 13 (.len (.t 12)) 10 true,
    og 14 (.bin .leq (.t 13) (.c (.int .i64) (20:Int))) 10 true,
    o_ 15 (.pick (.t 10) (.t 14) (.c .bool false)),
    mv 16 15,
    og 17 (.fieldAddr (.d Z0) 2 (.t 3)) 16 true,
    og 18 (.load (.d (.sl (.int .i64))) (.t 17)) 16 true,
    og 19 (.len (.t 18)) 16 true,
    og 20 (.bin .leq (.t 19) (.c (.int .i64) (20:Int))) 16 true,
    o_ 21 (.pick (.t 16) (.t 20) (.c .bool false)),
    mv 22 21,
    og 23 (.fieldAddr (.d Z0) 3 (.t 3)) 22 true,
    og 24 (.load (.d (.sl (.int .i64))) (.t 23)) 22 true,
    og 25 (.len (.t 24)) 22 true,
    og 26 (.bin .leq (.t 25) (.c (.int .i64) (40:Int))) 22 true,
    o_ 27 (.pick (.t 22) (.t 26) (.c .bool false)),
    mv 28 27,
    og 29 (.fieldAddr (.d Z0) 4 (.t 3)) 28 true,
    og 30 (.load (.d (.sl .bool)) (.t 29)) 28 true,
    og 31 (.len (.t 30)) 28 true,
    og 32 (.bin .leq (.t 31) (.c (.int .i64) (40:Int))) 28 true,
    o_ 33 (.pick (.t 28) (.t 32) (.c .bool false)),
    mv 34 33,
    og 35 (.fieldAddr (.d Za) 1 (.t 1)) 34 true,
    og 36 (.load (.d (.sl (.int .i64))) (.t 35)) 34 true,
    og 37 (.len (.t 36)) 34 true,
    og 38 (.bin .leq (.t 37) (.c (.int .i64) (40:Int))) 34 true,
    o_ 39 (.pick (.t 34) (.t 38) (.c .bool false)),
    mv 40 39,
    og 41 (.fieldAddr (.d Za) 2 (.t 1)) 40 true,
    og 42 (.load (.d (.sl (.int .i64))) (.t 41)) 40 true,
    og 43 (.len (.t 42)) 40 true,
    og 44 (.bin .leq (.t 43) (.c (.int .i64) (40:Int))) 40 true,
    o_ 45 (.pick (.t 40) (.t 44) (.c .bool false)),
    mv 46 45,
    og 47 (.fieldAddr (.d Za) 3 (.t 1)) 46 true,
    og 48 (.load (.d (.sl Zb)) (.t 47)) 46 true,
    og 49 (.len (.t 48)) 46 true,
    og 50 (.bin .leq (.t 49) (.c (.int .i64) (40:Int))) 46 true,
    o_ 51 (.pick (.t 46) (.t 50) (.c .bool false)),
    mv 2 51]) (BYg)) (BYf)
def BYc:Cd:=.seq (.seq (.reg false [fa 4 Za 0 1,
    ld 5 Z0 4,
    nb 3 1 Z0,
    sr Z0 3 5]) (BYe)) (BYd)
def X3.fn:Fn:=⟨1,[.tmp 2],.seq (.reg false [bx 1 0 0,
    o_ 2 (.move (.c .bool false))]) (BYc)⟩
def BKe:Cd:=td [5,6,7,8,9,10,11]
def BKd:Cd:=.ret
def BKc:Cd:=.seq (.seq (.reg false [mv 5 0,
    bc 6 .geq 5 0,
    mv 7 6,
    og 8 (.move (.t 0)) 7 true,
    og 9 (.move (.t 1)) 7 true,
    og 10 (.bin .lss (.t 8) (.t 9)) 7 true,
    o_ 11 (.pick (.t 7) (.t 10) (.c .bool false)),
    mv 4 11]) (BKe)) (BKd)
def Z9.fn:Fn:=⟨2,[.tmp 4],.seq (.reg false [o_ 4 (.move (.c .bool false))]) (BKc)⟩
def BKh:Cd:=td [3,4,5,6,7,8]
def BKg:Cd:=.ret
def BKf:Cd:=.seq (.seq (.reg false [mv 3 0,
    o_ 4 (.bin .leq (.c (.int .i64) (0:Int)) (.t 3)),
    mv 5 4,
    og 6 (.move (.t 0)) 5 true,
    og 7 (.bin .leq (.t 6) (.c (.int .i64) (1073741824:Int))) 5 true,
    o_ 8 (.pick (.t 5) (.t 7) (.c .bool false)),
    mv 2 8]) (BKh)) (BKg)
def Yd.fn:Fn:=⟨1,[.tmp 2],.seq (.reg false [o_ 2 (.move (.c .bool false))]) (BKf)⟩
def BJ4:Cd:=td [10,11,12]
def BJ7:Cd:=td [13,14,15,16,17,18,19,20,21,22,23,24,25,26,27,28,29,30,31,32,33,34,35,36,37,38,39,40,41,42,43,44,45,46,47,48,49,50,51,52,53]
def BJ9:Cd:=.ret
def BJ8:Cd:=.seq (.reg false [o_ 2 (.move (.c .bool false))]) (BJ9)
def BKa:Cd:=.skip
def BJ6:Cd:=.cond (.t 54) (.seq (td [54]) (BJ8)) (.seq (td [54]) (BKa))
def AXg:Cd:=td [55,56,57,58,59,60,61,62,63,64,65,66,67,68,69]
def AXi:Cd:=.ret
def AXh:Cd:=.seq (.reg false [o_ 2 (.move (.c .bool false))]) (AXi)
def AXj:Cd:=.skip
def AXf:Cd:=.cond (.t 70) (.seq (td [70]) (AXh)) (.seq (td [70]) (AXj))
def AXn:Cd:=td [71,72]
def AXo:Cd:=.skip
def AYo:Cd:=.exit 0
def AXm:Cd:=.cond (.t 73) (.seq (td [73]) (AXo)) (.seq (td [73]) (AYo))
def AXt:Cd:=td [76]
def AXu:Cd:=.skip
def AX2:Cd:=.exit 2
def AXs:Cd:=.cond (.t 77) (.seq (td [77]) (AXu)) (.seq (td [77]) (AX2))
def AXx:Cd:=td [80,81,82,83,84,85,86,87,88,89,90,91,92,93,94,95,96,97,98]
def AXz:Cd:=.ret
def AXy:Cd:=.seq (.reg false [o_ 2 (.move (.c .bool false))]) (AXz)
def AX0:Cd:=.skip
def AXw:Cd:=.cond (.t 99) (.seq (td [99]) (AXy)) (.seq (td [99]) (AX0))
def AX1:Cd:=td [78,79]
def AXv:Cd:=.seq (.reg false [mv 78 5,
    bc 79 .add 78 1,
    mv 5 79]) (AX1)
def AXr:Cd:=.seq (.block 3 (.seq (.seq (.reg false [fa 80 Z0 0 1,
    o_ 81 (.load (.d (.sl (.arr 4 (.int .i64)))) (.t 80)),
    mv 82 4,
    mv 83 5,
    o_ 84 (.index (.sl (.arr 4 (.int .i64))) (.t 81) (.t 82)),
    o_ 85 (.index (.arr 4 (.int .i64)) (.t 84) (.t 83)),
    ld 86 (.int .i64) 85,
    o_ 87 (.bin .neq (.t 86) (.c (.int .i64) ((-1):Int))),
    mv 88 87,
    og 89 (.fieldAddr (.d Z0) 0 (.t 1)) 88 true,
    og 90 (.load (.d (.sl (.arr 4 (.int .i64)))) (.t 89)) 88 true,
    og 91 (.move (.t 4)) 88 true,
    og 92 (.move (.t 5)) 88 true,
    og 93 (.index (.sl (.arr 4 (.int .i64))) (.t 90) (.t 91)) 88 true,
    og 94 (.index (.arr 4 (.int .i64)) (.t 93) (.t 92)) 88 true,
    og 95 (.load (.d (.int .i64)) (.t 94)) 88 true,
    og 96 (.move (.t 3)) 88 true,
    og 97 (.call (.f 19) [(.t 95),(.t 96)] [.d .bool] [] false) 88 true,
    og 98 (.not (.t 97)) 88 true,
    o_ 99 (.pick (.t 88) (.t 98) (.c .bool false))]) (AXx)) (AXw))) (AXv)
def AXq:Cd:=.tidy [] [] [] (some 1)
def ALx:Cd:=.seq (.seq (.seq (.seq (.reg false [mv 76 5,
    bc 77 .lss 76 4]) (AXt)) (AXs)) (AXr)) (AXq)
def AXp:Cd:=.block 2 (.loop (ALx))
def AX8:Cd:=td [100,101,102,103]
def AX9:Cd:=.skip
def AYh:Cd:=.exit 4
def AX7:Cd:=.cond (.t 104) (.seq (td [104]) (AX9)) (.seq (td [104]) (AYh))
def AYc:Cd:=td [107,108,109,110,111,112]
def AYe:Cd:=td [114,115]
def AYd:Cd:=.seq (.reg false [mv 114 6,
    bc 115 .add 114 1,
    mv 6 115]) (AYe)
def AYg:Cd:=.skip
def AYb:Cd:=.cond (.t 113) (.seq (td [113]) (AYd)) (.seq (td [113]) (AYg))
def AYf:Cd:=td [105,106]
def AYa:Cd:=.seq (.reg false [mv 105 7,
    bc 106 .add 105 1,
    mv 7 106]) (AYf)
def AX6:Cd:=.seq (.block 5 (.seq (.seq (.reg false [fa 107 Z0 3 1,
    o_ 108 (.load (.d (.sl (.int .i64))) (.t 107)),
    mv 109 7,
    ix 110 (.sl (.int .i64)) 108 109,
    ld 111 (.int .i64) 110,
    mv 112 4,
    bi 113 .eql 111 112]) (AYc)) (AYb))) (AYa)
def AX5:Cd:=.tidy [] [] [] (some 1)
def ALz:Cd:=.seq (.seq (.seq (.seq (.reg false [mv 100 7,
    fa 101 Z0 3 1,
    o_ 102 (.load (.d (.sl (.int .i64))) (.t 101)),
    le 103 102,
    bi 104 .lss 100 103]) (AX8)) (AX7)) (AX6)) (AX5)
def AX4:Cd:=.block 4 (.loop (ALz))
def AYj:Cd:=td [116,117,118]
def AYl:Cd:=.ret
def AYk:Cd:=.seq (.reg false [o_ 2 (.move (.c .bool false))]) (AYl)
def AYm:Cd:=.skip
def AYi:Cd:=.cond (.t 119) (.seq (td [119]) (AYk)) (.seq (td [119]) (AYm))
def ALy:Cd:=.seq (.seq (.reg false [mv 116 6,
    fa 117 Z0 5 1,
    ld 118 (.int .i64) 117,
    bi 119 .gtr 116 118]) (AYj)) (AYi)
def AX3:Cd:=.seq (.seq (.reg false [ci 7 0]) (AX4)) (ALy)
def ALw:Cd:=.seq (.reg false [ci 6 0]) (AX3)
def AYn:Cd:=td [74,75]
def Lo:Cd:=.seq (.reg false [mv 74 4,
    bc 75 .add 74 1,
    mv 4 75]) (AYn)
def AXl:Cd:=.seq (.block 1 (.seq (.seq (.reg false [ci 5 0]) (AXp)) (ALw))) (Lo)
def Lm:Cd:=.tidy [5,6,7] [] [] (some 1)
def Nj:Cd:=.seq (.seq (.seq (.seq (.reg false [mv 71 4,
    mv 72 3,
    bi 73 .lss 71 72]) (AXn)) (AXm)) (AXl)) (Lm)
def AXk:Cd:=.block 0 (.loop (Nj))
def AYt:Cd:=td [120,121,122,123]
def AYu:Cd:=.skip
def AY2:Cd:=.exit 6
def AYs:Cd:=.cond (.t 124) (.seq (td [124]) (AYu)) (.seq (td [124]) (AY2))
def AYx:Cd:=td [127,128,129,130,131,132,133,134,135,136,137,138,139,140,141,142]
def AYz:Cd:=.ret
def AYy:Cd:=.seq (.reg false [o_ 2 (.move (.c .bool false))]) (AYz)
def AY0:Cd:=.skip
def AYw:Cd:=.cond (.t 143) (.seq (td [143]) (AYy)) (.seq (td [143]) (AY0))
def AY1:Cd:=td [125,126]
def AYv:Cd:=.seq (.reg false [mv 125 8,
    bc 126 .add 125 1,
    mv 8 126]) (AY1)
def AYr:Cd:=.seq (.block 7 (.seq (.seq (.reg false [fa 127 Z0 1 1,
    o_ 128 (.load (.d (.sl (.int .i64))) (.t 127)),
    mv 129 8,
    ix 130 (.sl (.int .i64)) 128 129,
    ld 131 (.int .i64) 130,
    mv 132 3,
    o_ 133 (.call (.f 19) [(.t 131),(.t 132)] [.d .bool] [] false),
    nt 134 133,
    mv 135 134,
    og 136 (.fieldAddr (.d Z0) 2 (.t 1)) 135 false,
    og 137 (.load (.d (.sl (.int .i64))) (.t 136)) 135 false,
    og 138 (.move (.t 8)) 135 false,
    og 139 (.index (.sl (.int .i64)) (.t 137) (.t 138)) 135 false,
    og 140 (.load (.d (.int .i64)) (.t 139)) 135 false,
    og 141 (.call (.f 20) [(.t 140)] [.d .bool] [] false) 135 false,
    og 142 (.not (.t 141)) 135 false,
    o_ 143 (.pick (.t 135) (.c .bool true) (.t 142))]) (AYx)) (AYw))) (AYv)
def AYq:Cd:=.tidy [] [] [] (some 1)
def AL1:Cd:=.seq (.seq (.seq (.seq (.reg false [mv 120 8,
    fa 121 Z0 1 1,
    o_ 122 (.load (.d (.sl (.int .i64))) (.t 121)),
    le 123 122,
    bi 124 .lss 120 123]) (AYt)) (AYs)) (AYr)) (AYq)
def AYp:Cd:=.block 6 (.loop (AL1))
def AY7:Cd:=td [144,145,146,147]
def AY8:Cd:=.skip
def AZg:Cd:=.exit 8
def AY6:Cd:=.cond (.t 148) (.seq (td [148]) (AY8)) (.seq (td [148]) (AZg))
def AZb:Cd:=td [151,152,153,154,155,156,157]
def AZd:Cd:=.ret
def AZc:Cd:=.seq (.reg false [o_ 2 (.move (.c .bool false))]) (AZd)
def AZe:Cd:=.skip
def AZa:Cd:=.cond (.t 158) (.seq (td [158]) (AZc)) (.seq (td [158]) (AZe))
def AZf:Cd:=td [149,150]
def AY9:Cd:=.seq (.reg false [mv 149 9,
    bc 150 .add 149 1,
    mv 9 150]) (AZf)
def AY5:Cd:=.seq (.block 9 (.seq (.seq (.reg false [fa 151 Z0 3 1,
    o_ 152 (.load (.d (.sl (.int .i64))) (.t 151)),
    mv 153 9,
    ix 154 (.sl (.int .i64)) 152 153,
    ld 155 (.int .i64) 154,
    mv 156 3,
    o_ 157 (.call (.f 19) [(.t 155),(.t 156)] [.d .bool] [] false),
    nt 158 157]) (AZb)) (AZa))) (AY9)
def AY4:Cd:=.tidy [] [] [] (some 1)
def AL3:Cd:=.seq (.seq (.seq (.seq (.reg false [mv 144 9,
    fa 145 Z0 3 1,
    o_ 146 (.load (.d (.sl (.int .i64))) (.t 145)),
    le 147 146,
    bi 148 .lss 144 147]) (AY7)) (AY6)) (AY5)) (AY4)
def AY3:Cd:=.block 8 (.loop (AL3))
def AZh:Cd:=.ret
def AL2:Cd:=.seq (.reg false [o_ 2 (.move (.c .bool true))]) (AZh)
def AL0:Cd:=.seq (.seq (.reg false [ci 9 0]) (AY3)) (AL2)
def Vo:Cd:=.seq (.seq (.reg false [ci 8 0]) (AYp)) (AL0)
def BKb:Cd:=.seq (.seq (.reg false [ci 4 0]) (AXk)) (Vo)
def BJ5:Cd:=.seq (.seq (.seq (.reg false [fa 55 Z0 5 1,
    ld 56 (.int .i64) 55,
    o_ 57 (.call (.f 19) [(.t 56),(.c (.int .i64) (65:Int))] [.d .bool] [] false),
    nt 58 57,
    mv 59 58,
    og 60 (.fieldAddr (.d Z0) 6 (.t 1)) 59 false,
    og 61 (.load (.d (.int .i64)) (.t 60)) 59 false,
    og 62 (.call (.f 19) [(.t 61),(.c (.int .i64) (65:Int))] [.d .bool] [] false) 59 false,
    og 63 (.not (.t 62)) 59 false,
    o_ 64 (.pick (.t 59) (.c .bool true) (.t 63)),
    mv 65 64,
    og 66 (.fieldAddr (.d Z0) 7 (.t 1)) 65 false,
    og 67 (.load (.d (.int .i64)) (.t 66)) 65 false,
    og 68 (.call (.f 19) [(.t 67),(.c (.int .i64) (65:Int))] [.d .bool] [] false) 65 false,
    og 69 (.not (.t 68)) 65 false,
    o_ 70 (.pick (.t 65) (.c .bool true) (.t 69))]) (AXg)) (AXf)) (BKb)
def BJ3:Cd:=.seq (.seq (.seq (.reg false [mv 13 3,
    bc 14 .lss 13 1,
    mv 15 14,
    og 16 (.move (.t 3)) 15 false,
    og 17 (.bin .gtr (.t 16) (.c (.int .i64) (8:Int))) 15 false,
    o_ 18 (.pick (.t 15) (.c .bool true) (.t 17)),
    mv 19 18,
    og 20 (.fieldAddr (.d Z0) 1 (.t 1)) 19 false,
    og 21 (.load (.d (.sl (.int .i64))) (.t 20)) 19 false,
    og 22 (.len (.t 21)) 19 false,
    og 23 (.bin .lss (.t 22) (.c (.int .i64) (1:Int))) 19 false,
    o_ 24 (.pick (.t 19) (.c .bool true) (.t 23)),
    mv 25 24,
    og 26 (.fieldAddr (.d Z0) 1 (.t 1)) 25 false,
    og 27 (.load (.d (.sl (.int .i64))) (.t 26)) 25 false,
    og 28 (.len (.t 27)) 25 false,
    og 29 (.bin .gtr (.t 28) (.c (.int .i64) (6:Int))) 25 false,
    o_ 30 (.pick (.t 25) (.c .bool true) (.t 29)),
    mv 31 30,
    og 32 (.fieldAddr (.d Z0) 2 (.t 1)) 31 false,
    og 33 (.load (.d (.sl (.int .i64))) (.t 32)) 31 false,
    og 34 (.len (.t 33)) 31 false,
    og 35 (.fieldAddr (.d Z0) 1 (.t 1)) 31 false,
    og 36 (.load (.d (.sl (.int .i64))) (.t 35)) 31 false,
    og 37 (.len (.t 36)) 31 false,
    og 38 (.bin .neq (.t 34) (.t 37)) 31 false,
    o_ 39 (.pick (.t 31) (.c .bool true) (.t 38)),
    mv 40 39,
    og 41 (.fieldAddr (.d Z0) 3 (.t 1)) 40 false,
    og 42 (.load (.d (.sl (.int .i64))) (.t 41)) 40 false,
    og 43 (.len (.t 42)) 40 false,
    og 44 (.bin .gtr (.t 43) (.c (.int .i64) (16:Int))) 40 false,
    o_ 45 (.pick (.t 40) (.c .bool true) (.t 44)),
    mv 46 45,
    og 47 (.fieldAddr (.d Z0) 4 (.t 1)) 46 false,
    og 48 (.load (.d (.sl .bool)) (.t 47)) 46 false,
    og 49 (.len (.t 48)) 46 false,
    og 50 (.fieldAddr (.d Z0) 3 (.t 1)) 46 false,
    og 51 (.load (.d (.sl (.int .i64))) (.t 50)) 46 false,
    og 52 (.len (.t 51)) 46 false,
    og 53 (.bin .neq (.t 49) (.t 52)) 46 false,
    o_ 54 (.pick (.t 46) (.c .bool true) (.t 53))]) (BJ7)) (BJ6)) (BJ5)
def BJ2:Cd:=.seq (.seq (.reg false [fa 10 Z0 0 1,
    o_ 11 (.load (.d (.sl (.arr 4 (.int .i64)))) (.t 10)),
    le 12 11,
    mv 3 12]) (BJ4)) (BJ3)
def Zc.fn:Fn:=⟨1,[.tmp 2],.seq (.reg false [bx 1 0 0,
    o_ 2 (.move (.c .bool false))]) (BJ2)⟩
def BKn:Cd:=td [6,7]
def BKo:Cd:=.skip
def AZq:Cd:=.exit 0
def BKm:Cd:=.cond (.t 8) (.seq (td [8]) (BKo)) (.seq (td [8]) (AZq))
def AZi:Cd:=td [9,10]
def AZl:Cd:=td [11]
def AZn:Cd:=.ret
def AZm:Cd:=.seq (.reg false [ci 4 99]) (AZn)
def AZo:Cd:=.skip
def AZk:Cd:=.cond (.t 12) (.seq (td [12]) (AZm)) (.seq (td [12]) (AZo))
def AZp:Cd:=td [13,14,15,16,17,18]
def AZj:Cd:=.seq (.reg false [fa 13 Za 3 2,
    ld 14 (.sl Zb) 13,
    fa 15 Zb 1 3,
    ld 16 (.int .i64) 15,
    ix 17 (.sl Zb) 14 16,
    ld 18 Zb 17,
    sr Zb 3 18]) (AZp)
def BKp:Cd:=.seq (.seq (.seq (.reg false [mv 11 5,
    bc 12 .gtr 11 50]) (AZl)) (AZk)) (AZj)
def BKl:Cd:=.block 1 (.seq (.seq (.reg false [mv 9 5,
    bc 10 .add 9 1,
    mv 5 10]) (AZi)) (BKp))
def BKk:Cd:=.tidy [] [] [] (some 2)
def ARn:Cd:=.seq (.seq (.seq (.seq (.reg false [fa 6 Zb 0 3,
    ld 7 (.int .i64) 6,
    bc 8 .eql 7 2]) (BKn)) (BKm)) (BKl)) (BKk)
def AZs:Cd:=td [19]
def AZr:Cd:=.ret
def ARm:Cd:=.seq (.seq (.reg false [mv 19 5,
    mv 4 19]) (AZs)) (AZr)
def BKj:Cd:=.seq (.block 0 (.loop (ARn))) (ARm)
def BKi:Cd:=.seq (.reg false [ci 5 0]) (BKj)
def Z2.fn:Fn:=⟨2,[.tmp 4],.seq (.reg false [bx 2 0 0,
    bx 3 1 1,
    ci 4 0]) (BKi)⟩
def BKw:Cd:=td [7,8,9,10]
def BKx:Cd:=.skip
def AZ0:Cd:=.exit 0
def BKv:Cd:=.cond (.t 11) (.seq (td [11]) (BKx)) (.seq (td [11]) (AZ0))
def AZv:Cd:=td [14,15,16,17,18,19]
def AZx:Cd:=td [21,22]
def AZw:Cd:=.seq (.reg false [mv 21 5,
    bc 22 .add 21 1,
    mv 5 22]) (AZx)
def AZz:Cd:=.skip
def AZu:Cd:=.cond (.t 20) (.seq (td [20]) (AZw)) (.seq (td [20]) (AZz))
def AZy:Cd:=td [12,13]
def AZt:Cd:=.seq (.reg false [mv 12 6,
    bc 13 .add 12 1,
    mv 6 13]) (AZy)
def BKu:Cd:=.seq (.block 1 (.seq (.seq (.reg true [od 14 (.fieldAddr (.d Za) 3 (.t 2)) [0] [],
    od 15 (.load (.d (.sl Zb)) (.t 14)) [0] [],
    mv 16 6,
    ix 17 (.sl Zb) 15 16,
    ld 18 Zb 17,
    od 19 (.load (.d Zb) (.t 3)) [1] [],
    o_ 20 (.eqs Zb false (.t 18) (.t 19))]) (AZv)) (AZu))) (AZt)
def BKt:Cd:=.tidy [] [] [] (some 2)
def ARp:Cd:=.seq (.seq (.seq (.seq (.reg false [mv 7 6,
    fa 8 Za 3 2,
    ld 9 (.sl Zb) 8,
    le 10 9,
    bi 11 .lss 7 10]) (BKw)) (BKv)) (BKu)) (BKt)
def BKs:Cd:=.block 0 (.loop (ARp))
def AZ2:Cd:=td [23]
def AZ1:Cd:=.ret
def ARo:Cd:=.seq (.seq (.reg false [mv 23 5,
    mv 4 23]) (AZ2)) (AZ1)
def BKr:Cd:=.seq (.seq (.reg false [ci 6 0]) (BKs)) (ARo)
def BKq:Cd:=.seq (.reg false [ci 5 0]) (BKr)
def Z4.fn:Fn:=⟨2,[.tmp 4],.seq (.reg false [bx 2 0 0,
    bx 3 1 1,
    ci 4 0]) (BKq)⟩
def BK0:Cd:=td [5,6,7,8,9,10,11,12,13,14,15,16,17,18]
def BKz:Cd:=.ret
def BKy:Cd:=.seq (.seq (.reg false [fa 5 Za 0 2,
    fa 6 Z0 5 5,
    ld 7 (.int .i64) 6,
    fa 8 Za 0 2,
    fa 9 Z0 6 8,
    ld 10 (.int .i64) 9,
    fa 11 Za 0 2,
    fa 12 Z0 7 11,
    ld 13 (.int .i64) 12,
    o_ 14 (.slice 2 (.int .i64) [(.t 7),(.t 10),(.t 13)]),
    fa 15 Zb 0 3,
    ld 16 (.int .i64) 15,
    ix 17 (.sl (.int .i64)) 14 16,
    ld 18 (.int .i64) 17,
    mv 4 18]) (BK0)) (BKz)
def Yf.fn:Fn:=⟨2,[.tmp 4],.seq (.reg false [bx 2 0 0,
    bx 3 1 1,
    ci 4 0]) (BKy)⟩
def BYj:Cd:=td [9,10]
def BYm:Cd:=td [11,12,13,14,15,16,17,18,19,20,21,22,23,24,25,26,27,28,29,30,31,32,33,34,35,36,37,38,39]
def BYo:Cd:=.ret
def BYn:Cd:=.seq (.reg false [o_ 2 (.move (.c .bool false))]) (BYo)
def BYp:Cd:=.skip
def BYl:Cd:=.cond (.t 40) (.seq (td [40]) (BYn)) (.seq (td [40]) (BYp))
def BSq:Cd:=td [41,42,43,44]
def BSr:Cd:=.skip
def BSz:Cd:=.exit 0
def BSp:Cd:=.cond (.t 45) (.seq (td [45]) (BSr)) (.seq (td [45]) (BSz))
def BSu:Cd:=td [48,49,50,51,52,53,54,55,56,57,58,59,60,61,62,63,64,65]
def BSw:Cd:=.ret
def BSv:Cd:=.seq (.reg false [o_ 2 (.move (.c .bool false))]) (BSw)
def BSx:Cd:=.skip
def BSt:Cd:=.cond (.t 66) (.seq (td [66]) (BSv)) (.seq (td [66]) (BSx))
def BSy:Cd:=td [46,47]
def BSs:Cd:=.seq (.reg false [mv 46 4,
    bc 47 .add 46 1,
    mv 4 47]) (BSy)
def BSo:Cd:=.seq (.block 1 (.seq (.seq (.reg true [od 48 (.fieldAddr (.d Za) 1 (.t 1)) [0] [],
    od 49 (.load (.d (.sl (.int .i64))) (.t 48)) [0] [],
    mv 50 4,
    ix 51 (.sl (.int .i64)) 49 50,
    ld 52 (.int .i64) 51,
    od 53 (.fieldAddr (.d Z0) 0 (.t 3)) [1] [],
    od 54 (.load (.d (.sl (.arr 4 (.int .i64)))) (.t 53)) [1] [],
    le 55 54,
    o_ 56 (.call (.f 19) [(.t 52),(.t 55)] [.d .bool] [] false),
    nt 57 56,
    mv 58 57,
    ogd 59 (.fieldAddr (.d Za) 2 (.t 1)) 58 false [0],
    ogd 60 (.load (.d (.sl (.int .i64))) (.t 59)) 58 false [0],
    og 61 (.move (.t 4)) 58 false,
    og 62 (.index (.sl (.int .i64)) (.t 60) (.t 61)) 58 false,
    og 63 (.load (.d (.int .i64)) (.t 62)) 58 false,
    og 64 (.call (.f 20) [(.t 63)] [.d .bool] [] false) 58 false,
    og 65 (.not (.t 64)) 58 false,
    o_ 66 (.pick (.t 58) (.c .bool true) (.t 65))]) (BSu)) (BSt))) (BSs)
def BSn:Cd:=.tidy [] [] [] (some 2)
def ARy:Cd:=.seq (.seq (.seq (.seq (.reg false [mv 41 4,
    fa 42 Za 1 1,
    o_ 43 (.load (.d (.sl (.int .i64))) (.t 42)),
    le 44 43,
    bi 45 .lss 41 44]) (BSq)) (BSp)) (BSo)) (BSn)
def BSm:Cd:=.block 0 (.loop (ARy))
def BS4:Cd:=td [67,68,69,70]
def BS5:Cd:=.skip
def BTh:Cd:=.exit 2
def BS3:Cd:=.cond (.t 71) (.seq (td [71]) (BS5)) (.seq (td [71]) (BTh))
def BS8:Cd:=td [74,75,76,77,78]
def BTa:Cd:=td [79,80,81,82,83,84,85,86,87,88,89,90,91,92,93,94,95,96,97,98,99,100,101,102,103,104,105,106,107,108,109,110,111,112,113,114,115,116,117,118,119,120,121,122,123]
def BTc:Cd:=td [124]
def BTg:Cd:=.ret
def BTf:Cd:=.seq (.reg false [o_ 2 (.move (.c .bool false))]) (BTg)
def BTd:Cd:=.skip
def BTb:Cd:=.cond (.t 125) (.seq (td [125]) (BTf)) (.seq (td [125]) (BTd))
def BS9:Cd:=.seq (.seq (.reg false [mv 124 7,
    nt 125 124]) (BTc)) (BTb)
def BS7:Cd:=.seq (.seq (.reg false [fa 79 Zb 0 6,
    ld 80 (.int .i64) 79,
    bc 81 .eql 80 0,
    mv 82 81,
    og 83 (.fieldAddr (.d Zb) 1 (.t 6)) 82 true,
    og 84 (.load (.d (.int .i64)) (.t 83)) 82 true,
    og 85 (.fieldAddr (.d Z0) 0 (.t 3)) 82 true,
    og 86 (.load (.d (.sl (.arr 4 (.int .i64)))) (.t 85)) 82 true,
    og 87 (.len (.t 86)) 82 true,
    og 88 (.call (.f 19) [(.t 84),(.t 87)] [.d .bool] [] false) 82 true,
    o_ 89 (.pick (.t 82) (.t 88) (.c .bool false)),
    mv 90 89,
    og 91 (.fieldAddr (.d Zb) 0 (.t 6)) 90 false,
    og 92 (.load (.d (.int .i64)) (.t 91)) 90 false,
    og 93 (.bin .eql (.t 92) (.c (.int .i64) (1:Int))) 90 false,
    og 94 (.move (.t 93)) 90 false,
    og 95 (.fieldAddr (.d Zb) 1 (.t 6)) 94 true,
    og 96 (.load (.d (.int .i64)) (.t 95)) 94 true,
    og 97 (.fieldAddr (.d Z0) 1 (.t 3)) 94 true,
    og 98 (.load (.d (.sl (.int .i64))) (.t 97)) 94 true,
    og 99 (.len (.t 98)) 94 true,
    og 100 (.call (.f 19) [(.t 96),(.t 99)] [.d .bool] [] false) 94 true,
    og 101 (.pick (.t 94) (.t 100) (.c .bool false)) 90 false,
    o_ 102 (.pick (.t 90) (.c .bool true) (.t 101)),
    mv 103 102,
    og 104 (.fieldAddr (.d Zb) 0 (.t 6)) 103 false,
    og 105 (.load (.d (.int .i64)) (.t 104)) 103 false,
    og 106 (.bin .eql (.t 105) (.c (.int .i64) (2:Int))) 103 false,
    og 107 (.move (.t 106)) 103 false,
    og 108 (.fieldAddr (.d Zb) 1 (.t 6)) 107 true,
    og 109 (.load (.d (.int .i64)) (.t 108)) 107 true,
    og 110 (.fieldAddr (.d Z0) 3 (.t 3)) 107 true,
    og 111 (.load (.d (.sl (.int .i64))) (.t 110)) 107 true,
    og 112 (.len (.t 111)) 107 true,
    og 113 (.call (.f 19) [(.t 109),(.t 112)] [.d .bool] [] false) 107 true,
    og 114 (.pick (.t 107) (.t 113) (.c .bool false)) 103 false,
    og 115 (.move (.t 114)) 103 false,
    og 116 (.fieldAddr (.d Z0) 4 (.t 3)) 115 true,
    og 117 (.load (.d (.sl .bool)) (.t 116)) 115 true,
    og 118 (.fieldAddr (.d Zb) 1 (.t 6)) 115 true,
    og 119 (.load (.d (.int .i64)) (.t 118)) 115 true,
    og 120 (.index (.sl .bool) (.t 117) (.t 119)) 115 true,
    og 121 (.load (.d .bool) (.t 120)) 115 true,
    og 122 (.pick (.t 115) (.t 121) (.c .bool false)) 103 false,
    o_ 123 (.pick (.t 103) (.c .bool true) (.t 122)),
    mv 7 123]) (BTa)) (BS9)
def BTe:Cd:=td [72,73]
def BS6:Cd:=.seq (.reg false [mv 72 5,
    bc 73 .add 72 1,
    mv 5 73]) (BTe)
def BS2:Cd:=.seq (.block 3 (.seq (.seq (.reg false [fa 74 Za 3 1,
    ld 75 (.sl Zb) 74,
    mv 76 5,
    ix 77 (.sl Zb) 75 76,
    ld 78 Zb 77,
    nb 6 2 Zb,
    sr Zb 6 78]) (BS8)) (BS7))) (BS6)
def BS1:Cd:=.tidy [6,7] [] [] (some 2)
def AR0:Cd:=.seq (.seq (.seq (.seq (.reg false [mv 67 5,
    fa 68 Za 3 1,
    ld 69 (.sl Zb) 68,
    le 70 69,
    bi 71 .lss 67 70]) (BS4)) (BS3)) (BS2)) (BS1)
def BS0:Cd:=.block 2 (.loop (AR0))
def BTm:Cd:=td [126,127,128,129]
def BTn:Cd:=.skip
def BTv:Cd:=.exit 4
def BTl:Cd:=.cond (.t 130) (.seq (td [130]) (BTn)) (.seq (td [130]) (BTv))
def BTq:Cd:=td [133,134,135,136,137,138,139,140,141,142,143,144,145,146,147,148,149,150,151,152,153,154,155,156]
def BTs:Cd:=.ret
def BTr:Cd:=.seq (.reg false [o_ 2 (.move (.c .bool false))]) (BTs)
def BTt:Cd:=.skip
def BTp:Cd:=.cond (.t 157) (.seq (td [157]) (BTr)) (.seq (td [157]) (BTt))
def BTu:Cd:=td [131,132]
def BTo:Cd:=.seq (.reg false [mv 131 8,
    bc 132 .add 131 1,
    mv 8 132]) (BTu)
def BTk:Cd:=.seq (.block 5 (.seq (.seq (.reg true [od 133 (.load (.d Za) (.t 1)) [0] [],
    od 134 (.fieldAddr (.d Za) 3 (.t 1)) [0] [],
    od 135 (.load (.d (.sl Zb)) (.t 134)) [0] [],
    mv 136 8,
    ix 137 (.sl Zb) 135 136,
    ld 138 Zb 137,
    o_ 139 (.call (.f 21) [(.t 133),(.t 138)] [.d (.int .i64)] [] false),
    bc 140 .gtr 139 4,
    mv 141 140,
    ogd 142 (.load (.d Za) (.t 1)) 141 false [0],
    ogd 143 (.fieldAddr (.d Za) 3 (.t 1)) 141 false [0],
    ogd 144 (.load (.d (.sl Zb)) (.t 143)) 141 false [0],
    og 145 (.move (.t 8)) 141 false,
    og 146 (.index (.sl Zb) (.t 144) (.t 145)) 141 false,
    og 147 (.load (.d Zb) (.t 146)) 141 false,
    og 148 (.call (.f 22) [(.t 142),(.t 147)] [.d (.int .i64)] [] false) 141 false,
    ogd 149 (.load (.d Za) (.t 1)) 141 false [0],
    ogd 150 (.fieldAddr (.d Za) 3 (.t 1)) 141 false [0],
    ogd 151 (.load (.d (.sl Zb)) (.t 150)) 141 false [0],
    og 152 (.move (.t 8)) 141 false,
    og 153 (.index (.sl Zb) (.t 151) (.t 152)) 141 false,
    og 154 (.load (.d Zb) (.t 153)) 141 false,
    og 155 (.call (.f 23) [(.t 149),(.t 154)] [.d (.int .i64)] [] false) 141 false,
    og 156 (.bin .gtr (.t 148) (.t 155)) 141 false,
    o_ 157 (.pick (.t 141) (.c .bool true) (.t 156))]) (BTq)) (BTp))) (BTo)
def BTj:Cd:=.tidy [] [] [] (some 2)
def AR2:Cd:=.seq (.seq (.seq (.seq (.reg false [mv 126 8,
    fa 127 Za 3 1,
    ld 128 (.sl Zb) 127,
    le 129 128,
    bi 130 .lss 126 129]) (BTm)) (BTl)) (BTk)) (BTj)
def BTi:Cd:=.block 4 (.loop (AR2))
def BTw:Cd:=.ret
def AR1:Cd:=.seq (.reg false [o_ 2 (.move (.c .bool true))]) (BTw)
def ARz:Cd:=.seq (.seq (.reg false [ci 8 0]) (BTi)) (AR1)
def BTx:Cd:=.seq (.seq (.reg false [ci 5 0]) (BS0)) (ARz)
def BYk:Cd:=.seq (.seq (.reg false [ci 4 0]) (BSm)) (BTx)
def BYi:Cd:=.seq (.seq (.seq (.reg false [ld 11 Z0 3,
    o_ 12 (.call (.f 18) [(.t 11)] [.d .bool] [] false),
    nt 13 12,
    mv 14 13,
    og 15 (.fieldAddr (.d Za) 1 (.t 1)) 14 false,
    og 16 (.load (.d (.sl (.int .i64))) (.t 15)) 14 false,
    og 17 (.len (.t 16)) 14 false,
    og 18 (.fieldAddr (.d Z0) 1 (.t 3)) 14 false,
    og 19 (.load (.d (.sl (.int .i64))) (.t 18)) 14 false,
    og 20 (.len (.t 19)) 14 false,
    og 21 (.bin .neq (.t 17) (.t 20)) 14 false,
    o_ 22 (.pick (.t 14) (.c .bool true) (.t 21)),
    mv 23 22,
    og 24 (.fieldAddr (.d Za) 2 (.t 1)) 23 false,
    og 25 (.load (.d (.sl (.int .i64))) (.t 24)) 23 false,
    og 26 (.len (.t 25)) 23 false,
    og 27 (.fieldAddr (.d Z0) 1 (.t 3)) 23 false,
    og 28 (.load (.d (.sl (.int .i64))) (.t 27)) 23 false,
    og 29 (.len (.t 28)) 23 false,
    og 30 (.bin .neq (.t 26) (.t 29)) 23 false,
    o_ 31 (.pick (.t 23) (.c .bool true) (.t 30)),
    mv 32 31,
    og 33 (.fieldAddr (.d Za) 3 (.t 1)) 32 false,
    og 34 (.load (.d (.sl Zb)) (.t 33)) 32 false,
    og 35 (.len (.t 34)) 32 false,
    og 36 (.fieldAddr (.d Z0) 3 (.t 3)) 32 false,
    og 37 (.load (.d (.sl (.int .i64))) (.t 36)) 32 false,
    og 38 (.len (.t 37)) 32 false,
    og 39 (.bin .neq (.t 35) (.t 38)) 32 false,
    o_ 40 (.pick (.t 32) (.c .bool true) (.t 39))]) (BYm)) (BYl)) (BYk)
def BYh:Cd:=.seq (.seq (.reg false [fa 9 Za 0 1,
    ld 10 Z0 9,
    nb 3 1 Z0,
    sr Z0 3 10]) (BYj)) (BYi)
def Zg.fn:Fn:=⟨1,[.tmp 2],.seq (.reg false [bx 1 0 0,
    o_ 2 (.move (.c .bool false))]) (BYh)⟩
def BYs:Cd:=td [3,4,5,6,7,8,9,10,11,12]
def BYr:Cd:=.ret
def BYq:Cd:=.seq (.seq (.reg false [fa 3 Z6 5 1,
    o_ 4 (.load (.d (.sl (.int .i64))) (.t 3)),
    le 5 4,
    bc 6 .leq 5 40,
    mv 7 6,
    og 8 (.fieldAddr (.d Z6) 7 (.t 1)) 7 true,
    og 9 (.load (.d (.sl (.int .i64))) (.t 8)) 7 true,
    og 10 (.len (.t 9)) 7 true,
    og 11 (.bin .leq (.t 10) (.c (.int .i64) (40:Int))) 7 true,
    o_ 12 (.pick (.t 7) (.t 11) (.c .bool false)),
    mv 2 12]) (BYs)) (BYr)
def Ye.fn:Fn:=⟨1,[.tmp 2],.seq (.reg false [bx 1 0 0,
    o_ 2 (.move (.c .bool false))]) (BYq)⟩
def BK4:Cd:=td [5]
def BK7:Cd:=td [7,8]
def BK6:Cd:=.ret
def BK5:Cd:=.seq (.seq (.reg false [mv 7 0,
    bc 8 .eql 7 0,
    mv 4 8]) (BK7)) (BK6)
def BK8:Cd:=.skip
def BK3:Cd:=.cond (.t 6) (.seq (td [6]) (BK5)) (.seq (td [6]) (BK8))
def BLa:Cd:=td [9,10,11,12,13,14]
def BK9:Cd:=.ret
def BK2:Cd:=.seq (.seq (.reg false [mv 9 0,
    bc 10 .geq 9 0,
    mv 11 10,
    og 12 (.move (.t 0)) 11 true,
    og 13 (.bin .leq (.t 12) (.c (.int .i64) (1073741824:Int))) 11 true,
    o_ 14 (.pick (.t 11) (.t 13) (.c .bool false)),
    mv 4 14]) (BLa)) (BK9)
def BK1:Cd:=.seq (.seq (.seq (.reg false [mv 5 1,
    nt 6 5]) (BK4)) (BK3)) (BK2)
def Zf.fn:Fn:=⟨2,[.tmp 4],.seq (.reg false [o_ 4 (.move (.c .bool false))]) (BK1)⟩
def BLe:Cd:=td [6]
def BLh:Cd:=td [8,9,10]
def BLg:Cd:=.ret
def BLf:Cd:=.seq (.seq (.reg false [mv 8 0,
    le 9 8,
    bc 10 .eql 9 0,
    mv 4 10]) (BLh)) (BLg)
def BLi:Cd:=.skip
def BLd:Cd:=.cond (.t 7) (.seq (td [7]) (BLf)) (.seq (td [7]) (BLi))
def AZ6:Cd:=td [11,12,13]
def AZ7:Cd:=.skip
def BAf:Cd:=.exit 0
def AZ5:Cd:=.cond (.t 14) (.seq (td [14]) (AZ7)) (.seq (td [14]) (BAf))
def BAa:Cd:=td [17,18,19,20,21]
def BAc:Cd:=.ret
def BAb:Cd:=.seq (.reg false [o_ 4 (.move (.c .bool false))]) (BAc)
def BAd:Cd:=.skip
def AZ9:Cd:=.cond (.t 22) (.seq (td [22]) (BAb)) (.seq (td [22]) (BAd))
def BAe:Cd:=td [15,16]
def AZ8:Cd:=.seq (.reg false [mv 15 5,
    bc 16 .add 15 1,
    mv 5 16]) (BAe)
def AZ4:Cd:=.seq (.block 1 (.seq (.seq (.reg false [mv 17 0,
    mv 18 5,
    ix 19 (.sl (.int .i64)) 17 18,
    ld 20 (.int .i64) 19,
    o_ 21 (.call (.f 24) [(.t 20),(.c .bool true)] [.d .bool] [] false),
    nt 22 21]) (BAa)) (AZ9))) (AZ8)
def AZ3:Cd:=.tidy [] [] [] (some 0)
def AL4:Cd:=.seq (.seq (.seq (.seq (.reg false [mv 11 5,
    mv 12 0,
    le 13 12,
    bi 14 .lss 11 13]) (AZ6)) (AZ5)) (AZ4)) (AZ3)
def BLj:Cd:=.block 0 (.loop (AL4))
def BAh:Cd:=td [23,24,25]
def BAg:Cd:=.ret
def ARq:Cd:=.seq (.seq (.reg false [mv 23 0,
    le 24 23,
    bc 25 .leq 24 16,
    mv 4 25]) (BAh)) (BAg)
def BLc:Cd:=.seq (.seq (.reg false [ci 5 0]) (BLj)) (ARq)
def BLb:Cd:=.seq (.seq (.seq (.reg false [mv 6 1,
    nt 7 6]) (BLe)) (BLd)) (BLc)
def Zh.fn:Fn:=⟨2,[.tmp 4],.seq (.reg false [o_ 4 (.move (.c .bool false))]) (BLb)⟩
def BYv:Cd:=td [4,5]
def BYy:Cd:=td [6,7,8,9,10,11,12,13,14,15,16,17,18,19,20,21,22,23,24,25,26,27,28,29]
def BY0:Cd:=.ret
def BYz:Cd:=.seq (.reg false [o_ 2 (.move (.c .bool false))]) (BY0)
def BY1:Cd:=.skip
def BYx:Cd:=.cond (.t 30) (.seq (td [30]) (BYz)) (.seq (td [30]) (BY1))
def BWa:Cd:=td [31,32,33,34,35,36,37,38,39,40,41,42,43,44,45,46,47,48,49,50,51,52,53,54,55,56,57,58,59,60,61,62,63,64,65,66,67,68,69,70,71,72,73,74,75,76,77,78,79,80,81,82,83,84,85,86,87,88,89,90,91,92,93]
def BY2:Cd:=.ret
def BYw:Cd:=.seq (.seq (.reg false [fa 31 Z6 2 1,
    ld 32 (.int .i64) 31,
    mv 33 3,
    bc 34 .geq 33 3,
    mv 35 34,
    og 36 (.move (.t 3)) 35 true,
    og 37 (.bin .leq (.t 36) (.c (.int .i64) (7:Int))) 35 true,
    o_ 38 (.pick (.t 35) (.t 37) (.c .bool false)),
    o_ 39 (.call (.f 24) [(.t 32),(.t 38)] [.d .bool] [] false),
    mv 40 39,
    og 41 (.fieldAddr (.d Z6) 3 (.t 1)) 40 true,
    og 42 (.load (.d (.int .i64)) (.t 41)) 40 true,
    og 43 (.move (.t 3)) 40 true,
    og 44 (.bin .eql (.t 43) (.c (.int .i64) (5:Int))) 40 true,
    og 45 (.move (.t 44)) 40 true,
    og 46 (.move (.t 3)) 45 false,
    og 47 (.bin .eql (.t 46) (.c (.int .i64) (6:Int))) 45 false,
    og 48 (.pick (.t 45) (.c .bool true) (.t 47)) 40 true,
    og 49 (.call (.f 24) [(.t 42),(.t 48)] [.d .bool] [] false) 40 true,
    o_ 50 (.pick (.t 40) (.t 49) (.c .bool false)),
    mv 51 50,
    og 52 (.fieldAddr (.d Z6) 4 (.t 1)) 51 true,
    og 53 (.load (.d (.int .i64)) (.t 52)) 51 true,
    og 54 (.move (.t 3)) 51 true,
    og 55 (.bin .eql (.t 54) (.c (.int .i64) (2:Int))) 51 true,
    og 56 (.move (.t 55)) 51 true,
    og 57 (.move (.t 3)) 56 false,
    og 58 (.bin .eql (.t 57) (.c (.int .i64) (7:Int))) 56 false,
    og 59 (.pick (.t 56) (.c .bool true) (.t 58)) 51 true,
    og 60 (.move (.t 59)) 51 true,
    og 61 (.move (.t 3)) 60 false,
    og 62 (.bin .eql (.t 61) (.c (.int .i64) (8:Int))) 60 false,
    og 63 (.pick (.t 60) (.c .bool true) (.t 62)) 51 true,
    og 64 (.call (.f 24) [(.t 53),(.t 63)] [.d .bool] [] false) 51 true,
    o_ 65 (.pick (.t 51) (.t 64) (.c .bool false)),
    mv 66 65,
    og 67 (.fieldAddr (.d Z6) 6 (.t 1)) 66 true,
    og 68 (.load (.d (.int .i64)) (.t 67)) 66 true,
    og 69 (.move (.t 3)) 66 true,
    og 70 (.bin .eql (.t 69) (.c (.int .i64) (8:Int))) 66 true,
    og 71 (.call (.f 24) [(.t 68),(.t 70)] [.d .bool] [] false) 66 true,
    o_ 72 (.pick (.t 66) (.t 71) (.c .bool false)),
    mv 73 72,
    og 74 (.fieldAddr (.d Z6) 8 (.t 1)) 73 true,
    og 75 (.load (.d (.int .i64)) (.t 74)) 73 true,
    og 76 (.move (.t 3)) 73 true,
    og 77 (.bin .eql (.t 76) (.c (.int .i64) (8:Int))) 73 true,
    og 78 (.call (.f 24) [(.t 75),(.t 77)] [.d .bool] [] false) 73 true,
    o_ 79 (.pick (.t 73) (.t 78) (.c .bool false)),
    mv 80 79,
    og 81 (.fieldAddr (.d Z6) 5 (.t 1)) 80 true,
    og 82 (.load (.d (.sl (.int .i64))) (.t 81)) 80 true,
    og 83 (.move (.t 3)) 80 true,
    og 84 (.bin .eql (.t 83) (.c (.int .i64) (8:Int))) 80 true,
    og 85 (.call (.f 25) [(.t 82),(.t 84)] [.d .bool] [] false) 80 true,
    o_ 86 (.pick (.t 80) (.t 85) (.c .bool false)),
    mv 87 86,
    og 88 (.fieldAddr (.d Z6) 7 (.t 1)) 87 true,
    og 89 (.load (.d (.sl (.int .i64))) (.t 88)) 87 true,
    og 90 (.move (.t 3)) 87 true,
    og 91 (.bin .eql (.t 90) (.c (.int .i64) (8:Int))) 87 true,
    og 92 (.call (.f 25) [(.t 89),(.t 91)] [.d .bool] [] false) 87 true,
    o_ 93 (.pick (.t 87) (.t 92) (.c .bool false)),
    mv 2 93]) (BWa)) (BY2)
def BYu:Cd:=.seq (.seq (.seq (.reg false [mv 6 3,
    bc 7 .lss 6 1,
    mv 8 7,
    og 9 (.move (.t 3)) 8 false,
    og 10 (.bin .gtr (.t 9) (.c (.int .i64) (10:Int))) 8 false,
    o_ 11 (.pick (.t 8) (.c .bool true) (.t 10)),
    mv 12 11,
    og 13 (.fieldAddr (.d Z6) 1 (.t 1)) 12 false,
    og 14 (.load (.d (.int .i64)) (.t 13)) 12 false,
    og 15 (.bin .lss (.t 14) (.c (.int .i64) (0:Int))) 12 false,
    o_ 16 (.pick (.t 12) (.c .bool true) (.t 15)),
    mv 17 16,
    og 18 (.fieldAddr (.d Z6) 1 (.t 1)) 17 false,
    og 19 (.load (.d (.int .i64)) (.t 18)) 17 false,
    og 20 (.bin .gtr (.t 19) (.c (.int .i64) (3:Int))) 17 false,
    o_ 21 (.pick (.t 17) (.c .bool true) (.t 20)),
    mv 22 21,
    og 23 (.fieldAddr (.d Z6) 1 (.t 1)) 22 false,
    og 24 (.load (.d (.int .i64)) (.t 23)) 22 false,
    og 25 (.bin .neq (.t 24) (.c (.int .i64) (0:Int))) 22 false,
    og 26 (.move (.t 25)) 22 false,
    og 27 (.move (.t 3)) 26 true,
    og 28 (.bin .gtr (.t 27) (.c (.int .i64) (2:Int))) 26 true,
    og 29 (.pick (.t 26) (.t 28) (.c .bool false)) 22 false,
    o_ 30 (.pick (.t 22) (.c .bool true) (.t 29))]) (BYy)) (BYx)) (BYw)
def BYt:Cd:=.seq (.seq (.reg false [fa 4 Z6 0 1,
    ld 5 (.int .i64) 4,
    mv 3 5]) (BYv)) (BYu)
def X6.fn:Fn:=⟨1,[.tmp 2],.seq (.reg false [bx 1 0 0,
    o_ 2 (.move (.c .bool false))]) (BYt)⟩
def BQz:Cd:=td [5,6,7,8,9,10,11]
def BQ1:Cd:=.ret
def BQ0:Cd:=.seq (.reg false [o_ 4 (.move (.c .str (⟨#[]⟩:ByteArray)))]) (BQ1)
def BQ2:Cd:=.skip
def BQy:Cd:=.cond (.t 12) (.seq (td [12]) (BQ0)) (.seq (td [12]) (BQ2))
def BQ4:Cd:=td [13,14,15,16]
def BQ3:Cd:=.ret
def BQx:Cd:=.seq (.seq (.reg false [mv 13 0,
    mv 14 1,
    ix 15 (.sl .str) 13 14,
    ld 16 .str 15,
    mv 4 16]) (BQ4)) (BQ3)
def BQw:Cd:=.seq (.seq (.seq (.reg false [mv 5 1,
    bc 6 .lss 5 0,
    mv 7 6,
    og 8 (.move (.t 1)) 7 false,
    og 9 (.move (.t 0)) 7 false,
    og 10 (.len (.t 9)) 7 false,
    og 11 (.bin .geq (.t 8) (.t 10)) 7 false,
    o_ 12 (.pick (.t 7) (.c .bool true) (.t 11))]) (BQz)) (BQy)) (BQx)
def Kx.fn:Fn:=⟨2,[.tmp 4],.seq (.reg false [o_ 4 (.move (.c .str (⟨#[]⟩:ByteArray)))]) (BQw)⟩
def BMa:Cd:=td [3,4,5]
def BL9:Cd:=.ret
def BL8:Cd:=.seq (.seq (.reg false [o_ 3 (.slicearr 11 .str (.g 1)),
    mv 4 0,
    o_ 5 (.call (.f 59) [(.t 3),(.t 4)] [.d .str] [] false),
    mv 2 5]) (BMa)) (BL9)
def He.fn:Fn:=⟨1,[.tmp 2],.seq (.reg false [o_ 2 (.move (.c .str (⟨#[]⟩:ByteArray)))]) (BL8)⟩
def BMg:Cd:=td [4,5,6]
def BMj:Cd:=td [7]
def BMl:Cd:=td [10]
def BMn:Cd:=td [11,12,13]
def BMm:Cd:=.seq (.reg false [fa 11 Z6 1 1,
    ld 12 (.int .i64) 11,
    fa 13 Z6 1 3,
    sr (.int .i64) 13 12]) (BMn)
def BBe:Cd:=td [15]
def BBg:Cd:=td [16,17,18,19,20,21]
def BBf:Cd:=.seq (.reg true [od 16 (.fieldAddr (.d Z6) 4 (.t 1)) [0] [],
    od 17 (.load (.d (.int .i64)) (.t 16)) [0] [],
    od 18 (.fieldAddr (.d Z6) 1 (.t 1)) [0] [],
    od 19 (.load (.d (.int .i64)) (.t 18)) [0] [],
    od 20 (.fieldAddr (.d Z6) 4 (.t 3)) [2] [],
    ⟨none,.store (.d (.int .i64)) (.t 20) (.t 17),none,[],[2]⟩,
    od 21 (.fieldAddr (.d Z6) 1 (.t 3)) [2] [],
    ⟨none,.store (.d (.int .i64)) (.t 21) (.t 19),none,[],[2]⟩]) (BBg)
def BBk:Cd:=td [23]
def BB1:Cd:=td [24]
def BBj:Cd:=.cond (.t 22) (.skip) (.seq (.reg false [bc 24 .eql 8 4,
    mv 22 24]) (BB1))
def BBl:Cd:=td [25,26,27]
def BBo:Cd:=td [29]
def BB0:Cd:=td [30]
def BBn:Cd:=.cond (.t 28) (.skip) (.seq (.reg false [bc 30 .eql 8 6,
    mv 28 30]) (BB0))
def BBp:Cd:=td [31,32,33,34,35,36]
def BBr:Cd:=td [38]
def BBt:Cd:=td [39,40,41,42,43,44]
def BBs:Cd:=.seq (.reg true [od 39 (.fieldAddr (.d Z6) 2 (.t 1)) [0] [],
    od 40 (.load (.d (.int .i64)) (.t 39)) [0] [],
    od 41 (.fieldAddr (.d Z6) 4 (.t 1)) [0] [],
    od 42 (.load (.d (.int .i64)) (.t 41)) [0] [],
    od 43 (.fieldAddr (.d Z6) 2 (.t 3)) [2] [],
    ⟨none,.store (.d (.int .i64)) (.t 43) (.t 40),none,[],[2]⟩,
    od 44 (.fieldAddr (.d Z6) 4 (.t 3)) [2] [],
    ⟨none,.store (.d (.int .i64)) (.t 44) (.t 42),none,[],[2]⟩]) (BBt)
def BBw:Cd:=td [46]
def BBy:Cd:=td [47,48,49,50,51,52,53,54,55,56,57,58,59,60,61]
def BBx:Cd:=.seq (.reg true [od 47 (.fieldAddr (.d Z6) 4 (.t 1)) [0] [],
    od 48 (.load (.d (.int .i64)) (.t 47)) [0] [],
    od 49 (.fieldAddr (.d Z6) 5 (.t 1)) [0] [],
    od 50 (.load (.d (.sl (.int .i64))) (.t 49)) [0] [],
    od 51 (.fieldAddr (.d Z6) 6 (.t 1)) [0] [],
    od 52 (.load (.d (.int .i64)) (.t 51)) [0] [],
    od 53 (.fieldAddr (.d Z6) 7 (.t 1)) [0] [],
    od 54 (.load (.d (.sl (.int .i64))) (.t 53)) [0] [],
    od 55 (.fieldAddr (.d Z6) 8 (.t 1)) [0] [],
    od 56 (.load (.d (.int .i64)) (.t 55)) [0] [],
    od 57 (.fieldAddr (.d Z6) 4 (.t 3)) [2] [],
    ⟨none,.store (.d (.int .i64)) (.t 57) (.t 48),none,[],[2]⟩,
    od 58 (.fieldAddr (.d Z6) 5 (.t 3)) [2] [],
    ⟨none,.store (.d (.sl (.int .i64))) (.t 58) (.t 50),none,[],[2]⟩,
    od 59 (.fieldAddr (.d Z6) 6 (.t 3)) [2] [],
    ⟨none,.store (.d (.int .i64)) (.t 59) (.t 52),none,[],[2]⟩,
    od 60 (.fieldAddr (.d Z6) 7 (.t 3)) [2] [],
    ⟨none,.store (.d (.sl (.int .i64))) (.t 60) (.t 54),none,[],[2]⟩,
    od 61 (.fieldAddr (.d Z6) 8 (.t 3)) [2] [],
    ⟨none,.store (.d (.int .i64)) (.t 61) (.t 56),none,[],[2]⟩]) (BBy)
def BBz:Cd:=.skip
def BBv:Cd:=.cond (.t 45) (.seq (td [45]) (BBx)) (.seq (td [45]) (BBz))
def BBu:Cd:=.seq (.seq (.reg false [bc 46 .eql 8 8,
    mv 45 46]) (BBw)) (BBv)
def BBq:Cd:=.cond (.t 37) (.seq (td [37]) (BBs)) (.seq (td [37]) (BBu))
def BBm:Cd:=.cond (.t 28) (.seq (.reg true [od 31 (.fieldAddr (.d Z6) 2 (.t 1)) [0] [],
    od 32 (.load (.d (.int .i64)) (.t 31)) [0] [],
    od 33 (.fieldAddr (.d Z6) 3 (.t 1)) [0] [],
    od 34 (.load (.d (.int .i64)) (.t 33)) [0] [],
    od 35 (.fieldAddr (.d Z6) 2 (.t 3)) [2] [],
    ⟨none,.store (.d (.int .i64)) (.t 35) (.t 32),none,[],[2]⟩,
    od 36 (.fieldAddr (.d Z6) 3 (.t 3)) [2] [],
    ⟨none,.store (.d (.int .i64)) (.t 36) (.t 34),none,[],[2]⟩]) (BBp)) (.seq (.seq (.reg false [bc 38 .eql 8 7,
    mv 37 38]) (BBr)) (BBq))
def BBi:Cd:=.cond (.t 22) (.seq (.reg false [fa 25 Z6 2 1,
    ld 26 (.int .i64) 25,
    fa 27 Z6 2 3,
    sr (.int .i64) 27 26]) (BBl)) (.seq (.seq (.seq (.reg false [bc 29 .eql 8 5,
    mv 28 29]) (BBo)) (BBn)) (BBm))
def BBh:Cd:=.seq (.seq (.seq (.reg false [bc 23 .eql 8 3,
    mv 22 23]) (BBk)) (BBj)) (BBi)
def BBd:Cd:=.cond (.t 14) (.seq (td [14]) (BBf)) (.seq (td [14]) (BBh))
def BBc:Cd:=.seq (.seq (.reg false [bc 15 .eql 8 2,
    mv 14 15]) (BBe)) (BBd)
def BMk:Cd:=.cond (.t 9) (.seq (td [9]) (BMm)) (.seq (td [9]) (BBc))
def BMi:Cd:=.block 0 (.seq (.seq (.reg false [bc 10 .eql 8 1,
    mv 9 10]) (BMl)) (BMk))
def BBb:Cd:=td [62]
def BBa:Cd:=.ret
def BMh:Cd:=.seq (.seq (.reg false [ld 62 Z6 3,
    sr Z6 2 62]) (BBb)) (BBa)
def BMf:Cd:=.seq (.seq (.seq (.reg false [fa 7 Z6 0 1,
    ld 8 (.int .i64) 7]) (BMj)) (BMi)) (BMh)
def BMe:Cd:=.seq (.seq (.reg false [fa 4 Z6 0 1,
    ld 5 (.int .i64) 4,
    o_ 6 (.build Z6 [(0,(.t 5))] []),
    nb 3 2 Z6,
    sr Z6 3 6]) (BMg)) (BMf)
def Qg.fn:Fn:=⟨1,[.cell 2 (.d Z6)],.seq (.reg false [bx 1 0 0,
    nb 2 1 Z6]) (BMe)⟩
def BQ7:Cd:=td [3,4,5,6,7,8,9,10,11,12,13,14,15,16,17]
def BQ6:Cd:=.ret
def BQ5:Cd:=.seq (.seq (.reg false [fa 3 Z6 0 1,
    ld 4 (.int .i64) 3,
    fa 5 Z6 1 1,
    ld 6 (.int .i64) 5,
    fa 7 Z6 2 1,
    ld 8 (.int .i64) 7,
    fa 9 Z6 3 1,
    ld 10 (.int .i64) 9,
    fa 11 Z6 4 1,
    ld 12 (.int .i64) 11,
    fa 13 Z6 6 1,
    ld 14 (.int .i64) 13,
    fa 15 Z6 8 1,
    ld 16 (.int .i64) 15,
    o_ 17 (.build Un [(0,(.t 4)),(1,(.t 6)),(2,(.t 8)),(3,(.t 10)),(4,(.t 12)),(5,(.t 14)),(6,(.t 16))] []),
    sr Un 2 17]) (BQ7)) (BQ6)
def Ut.fn:Fn:=⟨1,[.cell 2 (.d Un)],.seq (.reg false [bx 1 0 0,
    nb 2 1 Un]) (BQ5)⟩
def BRb:Cd:=td [6,7,8,9]
def BRd:Cd:=.ret
def BRc:Cd:=.seq (.reg false [o_ 4 (.move (.c .bool false))]) (BRd)
def BRe:Cd:=.skip
def BRa:Cd:=.cond (.t 10) (.seq (td [10]) (BRc)) (.seq (td [10]) (BRe))
def BRg:Cd:=td [11]
def BEx:Cd:=.skip
def BE7:Cd:=.exit 0
def BE0:Cd:=td [15]
def BE2:Cd:=td [16,17,18,19,20,21,22,23]
def BE4:Cd:=.ret
def BE3:Cd:=.seq (.reg false [o_ 4 (.move (.c .bool false))]) (BE4)
def BE5:Cd:=.skip
def BE1:Cd:=.cond (.t 24) (.seq (td [24]) (BE3)) (.seq (td [24]) (BE5))
def BEz:Cd:=.seq (.seq (.reg true [mv 16 0,
    mv 17 5,
    ix 18 (.sl (.int .i64)) 16 17,
    ld 19 (.int .i64) 18,
    mv 20 1,
    mv 21 5,
    ix 22 (.sl (.int .i64)) 20 21,
    ld 23 (.int .i64) 22,
    bi 24 .neq 19 23]) (BE2)) (BE1)
def BE6:Cd:=td [25]
def BEy:Cd:=.seq (.reg false [bc 25 .add 13 1,
    mv 13 25]) (BE6)
def BEw:Cd:=.seq (.block 1 (.seq (.seq (.reg false [mv 15 13,
    mv 5 15]) (BE0)) (BEz))) (BEy)
def BEv:Cd:=.seq (.cond (.t 14) (.seq (td [14]) (BEx)) (.seq (td [14]) (BE7))) (BEw)
def BEu:Cd:=.tidy [5] [] [] (some 0)
def AL9:Cd:=.seq (.seq (.reg false [bi 14 .lss 13 12]) (BEv)) (BEu)
def BRf:Cd:=.block 0 (.loop (AL9))
def BE8:Cd:=.ret
def ARx:Cd:=.seq (.reg false [o_ 4 (.move (.c .bool true))]) (BE8)
def BQ9:Cd:=.seq (.seq (.seq (.reg false [mv 11 0,
    le 12 11,
    ci 13 0]) (BRg)) (BRf)) (ARx)
def BQ8:Cd:=.seq (.seq (.seq (.reg false [mv 6 0,
    le 7 6,
    mv 8 1,
    le 9 8,
    bi 10 .neq 7 9]) (BRb)) (BRa)) (BQ9)
def Zo.fn:Fn:=⟨2,[.tmp 4],.seq (.reg false [o_ 4 (.move (.c .bool false))]) (BQ8)⟩
def BMd:Cd:=td [5,6,7,8,9,10,11,12,13,14,15,16,17,18,19,20,21,22,23]
def BMc:Cd:=.ret
def BMb:Cd:=.seq (.seq (.reg true [od 5 (.load (.d Z6) (.t 2)) [0] [],
    o_ 6 (.call (.f 60) [(.t 5)] [.d Un] [] false),
    od 7 (.load (.d Z6) (.t 3)) [1] [],
    o_ 8 (.call (.f 60) [(.t 7)] [.d Un] [] false),
    o_ 9 (.eqs Un false (.t 6) (.t 8)),
    mv 10 9,
    ogd 11 (.fieldAddr (.d Z6) 5 (.t 2)) 10 true [0],
    ogd 12 (.load (.d (.sl (.int .i64))) (.t 11)) 10 true [0],
    ogd 13 (.fieldAddr (.d Z6) 5 (.t 3)) 10 true [1],
    ogd 14 (.load (.d (.sl (.int .i64))) (.t 13)) 10 true [1],
    og 15 (.call (.f 61) [(.t 12),(.t 14)] [.d .bool] [] false) 10 true,
    o_ 16 (.pick (.t 10) (.t 15) (.c .bool false)),
    mv 17 16,
    ogd 18 (.fieldAddr (.d Z6) 7 (.t 2)) 17 true [0],
    ogd 19 (.load (.d (.sl (.int .i64))) (.t 18)) 17 true [0],
    ogd 20 (.fieldAddr (.d Z6) 7 (.t 3)) 17 true [1],
    ogd 21 (.load (.d (.sl (.int .i64))) (.t 20)) 17 true [1],
    og 22 (.call (.f 61) [(.t 19),(.t 21)] [.d .bool] [] false) 17 true,
    o_ 23 (.pick (.t 17) (.t 22) (.c .bool false)),
    mv 4 23]) (BMd)) (BMc)
def Hf.fn:Fn:=⟨2,[.tmp 4],.seq (.reg false [bx 2 0 0,
    bx 3 1 1,
    o_ 4 (.move (.c .bool false))]) (BMb)⟩
def BMq:Cd:=td [3,4,5]
def BMp:Cd:=.ret
def BMo:Cd:=.seq (.seq (.reg false [o_ 3 (.slicearr 4 .str (.g 2)),
    mv 4 0,
    o_ 5 (.call (.f 59) [(.t 3),(.t 4)] [.d .str] [] false),
    mv 2 5]) (BMq)) (BMp)
def Gm.fn:Fn:=⟨1,[.tmp 2],.seq (.reg false [o_ 2 (.move (.c .str (⟨#[]⟩:ByteArray)))]) (BMo)⟩
def BMt:Cd:=td [3,4,5,6,7,8]
def BMs:Cd:=.ret
def BMr:Cd:=.seq (.seq (.reg false [mv 3 0,
    bc 4 .geq 3 0,
    mv 5 4,
    og 6 (.move (.t 0)) 5 true,
    og 7 (.bin .leq (.t 6) (.c (.int .i64) (1073741824:Int))) 5 true,
    o_ 8 (.pick (.t 5) (.t 7) (.c .bool false)),
    mv 2 8]) (BMt)) (BMs)
def Ki.fn:Fn:=⟨1,[.tmp 2],.seq (.reg false [o_ 2 (.move (.c .bool false))]) (BMr)⟩
def BRm:Cd:=td [3,4,5]
def BRl:Cd:=.ret
def BRk:Cd:=.seq (.seq (.reg false [mv 3 0,
    o_ 4 (.call (.f 35) [(.t 3)] [.d .bool] [] false),
    nt 5 4,
    mv 2 5]) (BRm)) (BRl)
def Ka.fn:Fn:=⟨1,[.tmp 2],.seq (.reg false [o_ 2 (.move (.c .bool false))]) (BRk)⟩
def AS7:Cd:=td [6]
def ATb:Cd:=.skip
def APo:Cd:=.exit 0
def APg:Cd:=td [10]
def APi:Cd:=td [11,12,13,14,15]
def APl:Cd:=td [17]
def APk:Cd:=.ret
def APj:Cd:=.seq (.seq (.reg false [mv 17 5,
    mv 4 17]) (APl)) (APk)
def APm:Cd:=.skip
def APh:Cd:=.cond (.t 16) (.seq (td [16]) (APj)) (.seq (td [16]) (APm))
def APf:Cd:=.seq (.seq (.reg false [mv 11 1,
    mv 12 0,
    mv 13 5,
    ix 14 (.sl (.int .i64)) 12 13,
    ld 15 (.int .i64) 14,
    o_ 16 (.call (.t 11) [(.t 15)] [.d .bool] [] false)]) (APi)) (APh)
def APn:Cd:=td [18]
def ATc:Cd:=.seq (.reg false [bc 18 .add 8 1,
    mv 8 18]) (APn)
def ATa:Cd:=.seq (.block 1 (.seq (.seq (.reg false [mv 10 8,
    mv 5 10]) (APg)) (APf))) (ATc)
def AS9:Cd:=.seq (.cond (.t 9) (.seq (td [9]) (ATb)) (.seq (td [9]) (APo))) (ATa)
def AS8:Cd:=.tidy [5] [] [] (some 0)
def AB6:Cd:=.seq (.seq (.reg false [bi 9 .lss 8 7]) (AS9)) (AS8)
def AS6:Cd:=.block 0 (.loop (AB6))
def APp:Cd:=.ret
def AB5:Cd:=.seq (.reg false [o_ 4 (.move (.c (.int .i64) ((-1):Int)))]) (APp)
def AS5:Cd:=.seq (.seq (.seq (.reg false [mv 6 0,
    le 7 6,
    ci 8 0]) (AS7)) (AS6)) (AB5)
def Zk.fn:Fn:=⟨2,[.tmp 4],.seq (.reg false [ci 4 0]) (AS5)⟩
def BRj:Cd:=td [5,6,7,8]
def BRi:Cd:=.ret
def BRh:Cd:=.seq (.seq (.reg false [mv 5 0,
    mv 6 1,
    o_ 7 (.call (.f 103) [(.t 5),(.t 6)] [.d (.int .i64)] [] false),
    bc 8 .geq 7 0,
    mv 4 8]) (BRj)) (BRi)
def Xb.fn:Fn:=⟨2,[.tmp 4],.seq (.reg false [o_ 4 (.move (.c .bool false))]) (BRh)⟩
def BMw:Cd:=td [3,4,5,6,7,8,9,10]
def BMv:Cd:=.ret
def BMu:Cd:=.seq (.seq (.reg false [mv 3 0,
    le 4 3,
    bc 5 .leq 4 16,
    mv 6 5,
    og 7 (.move (.t 0)) 6 true,
    og 8 (.call (.f 62) [(.t 7),(.f 63)] [.d .bool] [] false) 6 true,
    og 9 (.not (.t 8)) 6 true,
    o_ 10 (.pick (.t 6) (.t 9) (.c .bool false)),
    mv 2 10]) (BMw)) (BMv)
def H4.fn:Fn:=⟨1,[.tmp 2],.seq (.reg false [o_ 2 (.move (.c .bool false))]) (BMu)⟩
def BLm:Cd:=td [3,4,5,6,7,8,9,10,11,12,13,14,15,16,17,18,19,20,21,22,23,24,25,26,27,28,29,30,31,32,33,34,35,36,37,38,39,40,41,42,43,44,45,46,47,48,49,50,51,52,53]
def BLl:Cd:=.ret
def BLk:Cd:=.seq (.seq (.reg true [od 3 (.fieldAddr (.d Z6) 0 (.t 1)) [0] [],
    od 4 (.load (.d (.int .i64)) (.t 3)) [0] [],
    o_ 5 (.call (.f 31) [(.t 4)] [.d .str] [] false),
    o_ 6 (.eqs .str true (.t 5) (.c .str (⟨#[]⟩:ByteArray))),
    mv 7 6,
    ogd 8 (.load (.d Z6) (.t 1)) 7 true [0],
    ogd 9 (.load (.d Z6) (.t 1)) 7 true [0],
    og 10 (.call (.f 33) [(.t 9)] [.d Z6] [] false) 7 true,
    og 11 (.call (.f 32) [(.t 8),(.t 10)] [.d .bool] [] false) 7 true,
    o_ 12 (.pick (.t 7) (.t 11) (.c .bool false)),
    mv 13 12,
    ogd 14 (.fieldAddr (.d Z6) 1 (.t 1)) 13 true [0],
    ogd 15 (.load (.d (.int .i64)) (.t 14)) 13 true [0],
    og 16 (.call (.f 34) [(.t 15)] [.d .str] [] false) 13 true,
    og 17 (.eqs .str true (.t 16) (.c .str (⟨#[]⟩:ByteArray))) 13 true,
    o_ 18 (.pick (.t 13) (.t 17) (.c .bool false)),
    mv 19 18,
    ogd 20 (.fieldAddr (.d Z6) 2 (.t 1)) 19 true [0],
    ogd 21 (.load (.d (.int .i64)) (.t 20)) 19 true [0],
    og 22 (.call (.f 35) [(.t 21)] [.d .bool] [] false) 19 true,
    o_ 23 (.pick (.t 19) (.t 22) (.c .bool false)),
    mv 24 23,
    ogd 25 (.fieldAddr (.d Z6) 3 (.t 1)) 24 true [0],
    ogd 26 (.load (.d (.int .i64)) (.t 25)) 24 true [0],
    og 27 (.call (.f 35) [(.t 26)] [.d .bool] [] false) 24 true,
    o_ 28 (.pick (.t 24) (.t 27) (.c .bool false)),
    mv 29 28,
    ogd 30 (.fieldAddr (.d Z6) 4 (.t 1)) 29 true [0],
    ogd 31 (.load (.d (.int .i64)) (.t 30)) 29 true [0],
    og 32 (.call (.f 35) [(.t 31)] [.d .bool] [] false) 29 true,
    o_ 33 (.pick (.t 29) (.t 32) (.c .bool false)),
    mv 34 33,
    ogd 35 (.fieldAddr (.d Z6) 6 (.t 1)) 34 true [0],
    ogd 36 (.load (.d (.int .i64)) (.t 35)) 34 true [0],
    og 37 (.call (.f 35) [(.t 36)] [.d .bool] [] false) 34 true,
    o_ 38 (.pick (.t 34) (.t 37) (.c .bool false)),
    mv 39 38,
    ogd 40 (.fieldAddr (.d Z6) 8 (.t 1)) 39 true [0],
    ogd 41 (.load (.d (.int .i64)) (.t 40)) 39 true [0],
    og 42 (.call (.f 35) [(.t 41)] [.d .bool] [] false) 39 true,
    o_ 43 (.pick (.t 39) (.t 42) (.c .bool false)),
    mv 44 43,
    ogd 45 (.fieldAddr (.d Z6) 5 (.t 1)) 44 true [0],
    ogd 46 (.load (.d (.sl (.int .i64))) (.t 45)) 44 true [0],
    og 47 (.call (.f 36) [(.t 46)] [.d .bool] [] false) 44 true,
    o_ 48 (.pick (.t 44) (.t 47) (.c .bool false)),
    mv 49 48,
    ogd 50 (.fieldAddr (.d Z6) 7 (.t 1)) 49 true [0],
    ogd 51 (.load (.d (.sl (.int .i64))) (.t 50)) 49 true [0],
    og 52 (.call (.f 36) [(.t 51)] [.d .bool] [] false) 49 true,
    o_ 53 (.pick (.t 49) (.t 52) (.c .bool false)),
    mv 2 53]) (BLm)) (BLl)
def K6.fn:Fn:=⟨1,[.tmp 2],.seq (.reg false [bx 1 0 0,
    o_ 2 (.move (.c .bool false))]) (BLk)⟩
def ATz:Cd:=td [5]
def ATy:Cd:=.ret
def ATx:Cd:=.seq (.seq (.reg false [o_ 5 (.func 112 [(.t 2),(.t 3)]),
    mv 4 5]) (ATz)) (ATy)
def Gb.fn:Fn:=⟨2,[.tmp 4],.seq (.reg false [bx 2 0 0,
    bx 3 1 1,
    o_ 4 (.move .nf)]) (ATx)⟩
def ATu:Cd:=td [6,7,8,9]
def ATw:Cd:=td [10,11,12,13,14,15]
def ATv:Cd:=.ret
def ATt:Cd:=.seq (.seq (.reg false [mv 10 5,
    mv 11 5,
    le 12 11,
    bc 13 .sub 12 1,
    ix 14 (.sl Zb) 10 13,
    ld 15 Zb 14,
    sr Zb 4 15]) (ATw)) (ATv)
def ATs:Cd:=.seq (.seq (.reg false [ld 6 Za 2,
    mv 7 1,
    o_ 8 (.call (.f 107) [(.t 6),(.t 7)] [.clo 112 [.ref Za,.ref (.int .i64)]] [] false),
    o_ 9 (.call (.f 108) [(.t 8)] [.d (.sl Zb)] [] false),
    mv 5 9]) (ATu)) (ATt)
def Vv.fn:Fn:=⟨2,[.cell 4 (.d Zb)],.seq (.reg false [bx 2 0 0,
    nb 4 1 Zb]) (ATs)⟩
def AS0:Cd:=td [8]
def AS4:Cd:=.skip
def APc:Cd:=.exit 0
def AO5:Cd:=td [13,14,15]
def AO7:Cd:=td [16,17,18,19]
def AO9:Cd:=td [21,22,23,24,25,26]
def AO8:Cd:=.seq (.reg false [mv 21 5,
    mv 22 6,
    ld 23 Zb 7,
    o_ 24 (.build Kq [(0,(.t 22)),(1,(.t 23))] []),
    o_ 25 (.slice 3 Kq [(.t 24)]),
    o_ 26 (.append 4 Kq (.t 21) (.t 25)),
    mv 5 26]) (AO9)
def APb:Cd:=.skip
def AO6:Cd:=.cond (.t 20) (.seq (td [20]) (AO8)) (.seq (td [20]) (APb))
def AO4:Cd:=.seq (.seq (.reg true [od 16 (.load (.d Za) (.t 2)) [0] [],
    mv 17 6,
    o_ 18 (.call (.f 106) [(.t 16),(.t 17)] [.d Zb] [] false),
    od 19 (.load (.d Zb) (.t 3)) [1] [],
    o_ 20 (.eqs Zb false (.t 18) (.t 19))]) (AO7)) (AO6)
def APa:Cd:=td [27]
def AO3:Cd:=.seq (.reg false [bc 27 .add 11 1,
    mv 11 27]) (APa)
def AS3:Cd:=.seq (.block 1 (.seq (.seq (.reg false [mv 13 11,
    ix 14 (.sl Zb) 9 11,
    ld 15 Zb 14,
    nb 7 2 Zb,
    mv 6 13,
    sr Zb 7 15]) (AO5)) (AO4))) (AO3)
def AS2:Cd:=.seq (.cond (.t 12) (.seq (td [12]) (AS4)) (.seq (td [12]) (APc))) (AS3)
def AS1:Cd:=.tidy [6,7] [(4,5)] [2,3] (some 6)
def ALl:Cd:=.seq (.seq (.reg false [bi 12 .lss 11 10]) (AS2)) (AS1)
def ASz:Cd:=.block 0 (.loop (ALl))
def APe:Cd:=td [28]
def APd:Cd:=.ret
def ALk:Cd:=.seq (.seq (.reg false [mv 28 5,
    mv 4 28]) (APe)) (APd)
def ASy:Cd:=.seq (.seq (.seq (.reg false [fa 8 Za 3 2,
    ld 9 (.sl Zb) 8,
    le 10 9,
    ci 11 0]) (AS0)) (ASz)) (ALk)
def ASx:Cd:=.seq (.reg false [o_ 5 (.mknil 5 Kq)]) (ASy)
def Xw.fn:Fn:=⟨2,[.tmp 4],.seq (.reg false [bx 2 0 0,
    bx 3 1 1,
    o_ 4 (.move (.c (.sl Kq) []))]) (ASx)⟩
def BQv:Cd:=td [5,6,7,8,9,10,11,12,13,14]
def BQu:Cd:=.ret
def BQt:Cd:=.seq (.seq (.reg true [od 5 (.fieldAddr (.d Za) 2 (.t 2)) [0] [],
    od 6 (.load (.d (.sl (.int .i64))) (.t 5)) [0] [],
    mv 7 1,
    ix 8 (.sl (.int .i64)) 6 7,
    ld 9 (.int .i64) 8,
    od 10 (.load (.d Za) (.t 2)) [0] [],
    mv 11 1,
    o_ 12 (.build Zb [(0,(.c (.int .i64) (1:Int))),(1,(.t 11))] []),
    o_ 13 (.call (.f 102) [(.t 10),(.t 12)] [.d (.sl Kq)] [] false),
    o_ 14 (.build Xg [(1,(.c (.int .i64) (10:Int))),(5,(.t 9)),(4,(.t 13))] []),
    ⟨none,.store (.d Xg) (.t 4) (.t 14),none,[],[1]⟩]) (BQv)) (BQu)
def Ke.fn:Fn:=⟨2,[.cell 4 (.d Xg)],.seq (.reg false [bx 2 0 0,
    nb 4 1 Xg]) (BQt)⟩
def ASm:Cd:=td [6]
def ASo:Cd:=td [9,10,11,12,13]
def ASn:Cd:=.ret
def ASl:Cd:=.seq (.seq (.reg true [od 9 (.load (.d Za) (.t 4)) [0] [],
    o_ 10 (.load (.v false 1) (.t 3)),
    od 11 (.load (.d Za) (.t 4)) [0] [],
    mv 12 1,
    o_ 13 (.call (.t 10) [(.t 11),(.t 12)] [.d Xg] [] false),
    ⟨none,.store (.d Za) (.t 7) (.t 9),none,[],[2]⟩,
    ⟨none,.store (.d Xg) (.t 8) (.t 13),none,[],[3]⟩]) (ASo)) (ASn)
def Y4.fn:Fn:=⟨4,[.cell 7 (.d Za),.cell 8 (.d Xg)],.seq (.seq (.reg false [bx 4 0 0,
    bx 6 1 2,
    nb 7 2 Za,
    nb 8 3 Xg]) (ASm)) (ASl)⟩
def ASs:Cd:=td [7,8]
def ASw:Cd:=.skip
def AO0:Cd:=.exit 0
def AOt:Cd:=td [12]
def AOv:Cd:=td [13,14,15,16,17,18]
def AOx:Cd:=td [20,21,22,23]
def AOw:Cd:=.seq (.reg false [mv 20 5,
    mv 21 6,
    o_ 22 (.slice 1 (.int .i64) [(.t 21)]),
    o_ 23 (.append 2 (.int .i64) (.t 20) (.t 22)),
    mv 5 23]) (AOx)
def AOz:Cd:=.skip
def AOu:Cd:=.cond (.t 19) (.seq (td [19]) (AOw)) (.seq (td [19]) (AOz))
def AOs:Cd:=.seq (.seq (.reg false [fa 13 Za 1 2,
    o_ 14 (.load (.d (.sl (.int .i64))) (.t 13)),
    mv 15 6,
    ix 16 (.sl (.int .i64)) 14 15,
    ld 17 (.int .i64) 16,
    mv 18 1,
    bi 19 .eql 17 18]) (AOv)) (AOu)
def AOy:Cd:=td [24]
def AOr:Cd:=.seq (.reg false [bc 24 .add 10 1,
    mv 10 24]) (AOy)
def ASv:Cd:=.seq (.block 1 (.seq (.seq (.reg false [mv 12 10,
    mv 6 12]) (AOt)) (AOs))) (AOr)
def ASu:Cd:=.seq (.cond (.t 11) (.seq (td [11]) (ASw)) (.seq (td [11]) (AO0))) (ASv)
def ASt:Cd:=.tidy [6] [(2,3)] [1] (some 4)
def ALj:Cd:=.seq (.seq (.reg false [bi 11 .lss 10 9]) (ASu)) (ASt)
def ASr:Cd:=.block 0 (.loop (ALj))
def AO2:Cd:=td [25]
def AO1:Cd:=.ret
def ALi:Cd:=.seq (.seq (.reg false [mv 25 5,
    mv 4 25]) (AO2)) (AO1)
def ASq:Cd:=.seq (.seq (.seq (.reg false [fa 7 Za 1 2,
    o_ 8 (.load (.d (.sl (.int .i64))) (.t 7)),
    le 9 8,
    ci 10 0]) (ASs)) (ASr)) (ALi)
def ASp:Cd:=.seq (.reg false [o_ 5 (.mknil 3 (.int .i64))]) (ASq)
def Xd.fn:Fn:=⟨2,[.tmp 4],.seq (.reg false [bx 2 0 0,
    o_ 4 (.move (.c (.sl (.int .i64)) []))]) (ASp)⟩
def BQq:Cd:=td [6,7,8,9,10]
def BQs:Cd:=td [11,12,13,14,15,16,17,18,19]
def BQr:Cd:=.ret
def BQp:Cd:=.seq (.seq (.reg true [mv 11 5,
    od 12 (.load (.d Za) (.t 2)) [0] [],
    mv 13 5,
    o_ 14 (.call (.f 101) [(.t 12),(.t 13)] [.d (.sl (.int .i64))] [] false),
    od 15 (.load (.d Za) (.t 2)) [0] [],
    mv 16 5,
    o_ 17 (.build Zb [(0,(.c (.int .i64) (0:Int))),(1,(.t 16))] []),
    o_ 18 (.call (.f 102) [(.t 15),(.t 17)] [.d (.sl Kq)] [] false),
    o_ 19 (.build Xg [(1,(.c (.int .i64) (9:Int))),(2,(.t 11)),(3,(.t 14)),(4,(.t 18))] []),
    ⟨none,.store (.d Xg) (.t 4) (.t 19),none,[],[1]⟩]) (BQs)) (BQr)
def BQo:Cd:=.seq (.seq (.reg false [fa 6 Za 1 2,
    o_ 7 (.load (.d (.sl (.int .i64))) (.t 6)),
    mv 8 1,
    ix 9 (.sl (.int .i64)) 7 8,
    ld 10 (.int .i64) 9,
    mv 5 10]) (BQq)) (BQp)
def Vl.fn:Fn:=⟨2,[.cell 4 (.d Xg)],.seq (.reg false [bx 2 0 0,
    nb 4 1 Xg]) (BQo)⟩
def BWj:Cd:=td [5,6,7,8,9,10,11,12,13]
def BWi:Cd:=.ret
def BWh:Cd:=.seq (.seq (.reg false [mv 5 1,
    bc 6 .geq 5 0,
    mv 7 6,
    og 8 (.move (.t 1)) 7 true,
    og 9 (.fieldAddr (.d Za) 1 (.t 2)) 7 true,
    og 10 (.load (.d (.sl (.int .i64))) (.t 9)) 7 true,
    og 11 (.len (.t 10)) 7 true,
    og 12 (.bin .lss (.t 8) (.t 11)) 7 true,
    o_ 13 (.pick (.t 7) (.t 12) (.c .bool false)),
    mv 4 13]) (BWj)) (BWi)
def Y9.fn:Fn:=⟨2,[.tmp 4],.seq (.reg false [bx 2 0 0,
    o_ 4 (.move (.c .bool false))]) (BWh)⟩
def BWg:Cd:=td [5,6,7,8,9,10,11,12,13]
def BWf:Cd:=.ret
def BWe:Cd:=.seq (.seq (.reg false [mv 5 1,
    bc 6 .geq 5 0,
    mv 7 6,
    og 8 (.move (.t 1)) 7 true,
    og 9 (.fieldAddr (.d Za) 3 (.t 2)) 7 true,
    og 10 (.load (.d (.sl Zb)) (.t 9)) 7 true,
    og 11 (.len (.t 10)) 7 true,
    og 12 (.bin .lss (.t 8) (.t 11)) 7 true,
    o_ 13 (.pick (.t 7) (.t 12) (.c .bool false)),
    mv 4 13]) (BWg)) (BWf)
def Ky.fn:Fn:=⟨2,[.tmp 4],.seq (.reg false [bx 2 0 0,
    o_ 4 (.move (.c .bool false))]) (BWe)⟩
def BWv:Cd:=td [4,5,6,7]
def BWu:Cd:=.ret
def BWt:Cd:=.seq (.seq (.reg false [ld 4 Za 1,
    mv 5 0,
    o_ 6 (.call (.f 91) [(.t 4),(.t 5)] [.d .bool] [] false),
    nt 7 6,
    mv 3 7]) (BWv)) (BWu)
def Y5.fn:Fn:=⟨2,[.tmp 3],.seq (.reg false [o_ 3 (.move (.c .bool false))]) (BWt)⟩
def BWy:Cd:=td [6]
def BW3:Cd:=.skip
def BGq:Cd:=.exit 0
def BGh:Cd:=td [11,12]
def BGk:Cd:=td [13,14]
def BGm:Cd:=.ret
def BGl:Cd:=.seq (.reg false [o_ 2 (.move (.c .bool true))]) (BGm)
def BGn:Cd:=.skip
def BGj:Cd:=.cond (.t 15) (.seq (td [15]) (BGl)) (.seq (td [15]) (BGn))
def BGo:Cd:=td [16,17]
def BGi:Cd:=.seq (.reg false [mv 16 3,
    mv 17 5,
    on_ (.mapset (.int .i64) .bool (.t 16) (.t 17) (.c .bool true))]) (BGo)
def BGg:Cd:=.seq (.seq (.seq (.reg false [mv 13 3,
    mv 14 5,
    o_ 15 (.lookup (.int .i64) .bool (.t 13) (.t 14))]) (BGk)) (BGj)) (BGi)
def BGp:Cd:=td [18]
def BGf:Cd:=.seq (.reg false [bc 18 .add 9 1,
    mv 9 18]) (BGp)
def BW2:Cd:=.seq (.block 1 (.seq (.seq (.reg false [ix 11 (.sl (.int .i64)) 7 9,
    ld 12 (.int .i64) 11,
    mv 5 12]) (BGh)) (BGg))) (BGf)
def BW1:Cd:=.seq (.cond (.t 10) (.seq (td [10]) (BW3)) (.seq (td [10]) (BGq))) (BW2)
def BW0:Cd:=.tidy [5] [] [] (some 1)
def AR6:Cd:=.seq (.seq (.reg false [bi 10 .lss 9 8]) (BW1)) (BW0)
def BWz:Cd:=.block 0 (.loop (AR6))
def BGr:Cd:=.ret
def AR5:Cd:=.seq (.reg false [o_ 2 (.move (.c .bool false))]) (BGr)
def BWx:Cd:=.seq (.seq (.reg false [mv 7 0,
    le 8 7,
    ci 9 0]) (BWz)) (AR5)
def BWw:Cd:=.seq (.seq (.reg false [o_ 6 (.mkmap 0 (.int .i64) .bool),
    mv 3 6]) (BWy)) (BWx)
def Xt.fn:Fn:=⟨1,[.tmp 2],.seq (.reg false [o_ 2 (.move (.c .bool false))]) (BWw)⟩
def BWm:Cd:=td [3,4]
def BWl:Cd:=.ret
def BWk:Cd:=.seq (.seq (.reg false [mv 3 0,
    o_ 4 (.build Zb [(0,(.c (.int .i64) (1:Int))),(1,(.t 3))] []),
    sr Zb 2 4]) (BWm)) (BWl)
def Ys.fn:Fn:=⟨1,[.cell 2 (.d Zb)],.seq (.reg false [nb 2 0 Zb]) (BWk)⟩
def BWs:Cd:=td [5,6,7,8,9,10,11,12]
def BWr:Cd:=.ret
def BWq:Cd:=.seq (.seq (.reg true [fa 5 Za 3 1,
    ld 6 (.sl Zb) 5,
    mv 7 0,
    ix 8 (.sl Zb) 6 7,
    ld 9 Zb 8,
    ld 10 (.int .i64) 2,
    o_ 11 (.call (.f 93) [(.t 10)] [.d Zb] [] false),
    o_ 12 (.eqs Zb true (.t 9) (.t 11)),
    mv 4 12]) (BWs)) (BWr)
def Ym.fn:Fn:=⟨3,[.tmp 4],.seq (.reg false [o_ 4 (.move (.c .bool false))]) (BWq)⟩
def BWp:Cd:=td [6,7,8]
def BWo:Cd:=.ret
def BWn:Cd:=.seq (.seq (.reg false [mv 6 0,
    o_ 7 (.func 96 [(.t 2),(.t 4)]),
    o_ 8 (.call (.f 62) [(.t 6),(.t 7)] [.d .bool] [] false),
    mv 5 8]) (BWp)) (BWo)
def Yw.fn:Fn:=⟨3,[.tmp 5],.seq (.reg false [bx 4 0 1,
    o_ 5 (.move (.c .bool false))]) (BWn)⟩
def AT3:Cd:=td [8]
def AT7:Cd:=.skip
def AQe:Cd:=.exit 0
def AP7:Cd:=td [13,14,15]
def AP9:Cd:=td [16,17]
def AQb:Cd:=td [19,20,21,22]
def AQa:Cd:=.seq (.reg false [mv 19 5,
    mv 20 6,
    o_ 21 (.slice 3 (.int .i64) [(.t 20)]),
    o_ 22 (.append 4 (.int .i64) (.t 19) (.t 21)),
    mv 5 22]) (AQb)
def AQd:Cd:=.skip
def AP8:Cd:=.cond (.t 18) (.seq (td [18]) (AQa)) (.seq (td [18]) (AQd))
def AP6:Cd:=.seq (.seq (.reg false [ld 16 Zb 3,
    ld 17 Zb 7,
    o_ 18 (.eqs Zb false (.t 16) (.t 17))]) (AP9)) (AP8)
def AQc:Cd:=td [23]
def AP5:Cd:=.seq (.reg false [bc 23 .add 11 1,
    mv 11 23]) (AQc)
def AT6:Cd:=.seq (.block 1 (.seq (.seq (.reg false [mv 13 11,
    ix 14 (.sl Zb) 9 11,
    ld 15 Zb 14,
    nb 7 2 Zb,
    mv 6 13,
    sr Zb 7 15]) (AP7)) (AP6))) (AP5)
def AT5:Cd:=.seq (.cond (.t 12) (.seq (td [12]) (AT7)) (.seq (td [12]) (AQe))) (AT6)
def AT4:Cd:=.tidy [6,7] [(4,5)] [2,3] (some 6)
def ALn:Cd:=.seq (.seq (.reg false [bi 12 .lss 11 10]) (AT5)) (AT4)
def AT2:Cd:=.block 0 (.loop (ALn))
def AQg:Cd:=td [24]
def AQf:Cd:=.ret
def ALm:Cd:=.seq (.seq (.reg false [mv 24 5,
    mv 4 24]) (AQg)) (AQf)
def AT1:Cd:=.seq (.seq (.seq (.reg false [fa 8 Za 3 2,
    ld 9 (.sl Zb) 8,
    le 10 9,
    ci 11 0]) (AT3)) (AT2)) (ALm)
def AT0:Cd:=.seq (.reg false [o_ 5 (.mknil 5 (.int .i64))]) (AT1)
def Yv.fn:Fn:=⟨2,[.tmp 4],.seq (.reg false [bx 2 0 0,
    bx 3 1 1,
    o_ 4 (.move (.c (.sl (.int .i64)) []))]) (AT0)⟩
def BVo:Cd:=td [6,7,8,9,10,11,12,13,14,15]
def BVq:Cd:=td [16,17,18,19,20,21,22,23,24]
def BVp:Cd:=.ret
def BVn:Cd:=.seq (.seq (.reg true [od 16 (.fieldAddr (.d Zb) 0 (.t 3)) [1] [],
    od 17 (.load (.d (.int .i64)) (.t 16)) [1] [],
    od 18 (.index (.arr 3 (.int .i64)) (.t 5) (.t 17)) [2] [],
    od 19 (.load (.d (.int .i64)) (.t 18)) [2] [],
    od 20 (.load (.d Za) (.t 2)) [0] [],
    od 21 (.load (.d Zb) (.t 3)) [1] [],
    o_ 22 (.call (.f 109) [(.t 20),(.t 21)] [.d (.sl (.int .i64))] [] false),
    le 23 22,
    bi 24 .sub 19 23,
    mv 4 24]) (BVq)) (BVp)
def BVm:Cd:=.seq (.seq (.reg false [fa 6 Za 0 2,
    fa 7 Z0 5 6,
    ld 8 (.int .i64) 7,
    fa 9 Za 0 2,
    fa 10 Z0 6 9,
    ld 11 (.int .i64) 10,
    fa 12 Za 0 2,
    fa 13 Z0 7 12,
    ld 14 (.int .i64) 13,
    o_ 15 (.build (.arr 3 (.int .i64)) [(0,(.t 8)),(1,(.t 11)),(2,(.t 14))] []),
    o_ 5 (.newbox 2 (.arr 3 (.int .i64)) []),
    on_ (.store (.d (.arr 3 (.int .i64))) (.t 5) (.t 15))]) (BVo)) (BVn)
def Q8.fn:Fn:=⟨2,[.tmp 4],.seq (.reg false [bx 2 0 0,
    bx 3 1 1,
    ci 4 0]) (BVm)⟩
def AVi:Cd:=td [3,4,5,6,7,8]
def AVh:Cd:=.ret
def AVg:Cd:=.seq (.seq (.reg false [mv 3 0,
    bc 4 .geq 3 0,
    mv 5 4,
    og 6 (.move (.t 0)) 5 true,
    og 7 (.bin .leq (.t 6) (.c (.int .i64) (1073741824:Int))) 5 true,
    o_ 8 (.pick (.t 5) (.t 7) (.c .bool false)),
    mv 2 8]) (AVi)) (AVh)
def H5.fn:Fn:=⟨1,[.tmp 2],.seq (.reg false [o_ 2 (.move (.c .bool false))]) (AVg)⟩
def BW7:Cd:=td [12,13,14,15,16,17]
def BXa:Cd:=td [18,19]
def BW9:Cd:=.ret
def BW8:Cd:=.seq (.seq (.reg false [mv 18 0,
    mv 19 1,
    mv 8 18,
    mv 9 19,
    ci 10 1]) (BXa)) (BW9)
def BXd:Cd:=td [21,22,23,24,25,26,27,28]
def BGu:Cd:=td [29,30]
def BGt:Cd:=.ret
def BGs:Cd:=.seq (.seq (.reg false [mv 29 0,
    mv 30 1,
    mv 8 29,
    mv 9 30,
    ci 10 10]) (BGu)) (BGt)
def BGx:Cd:=td [32,33,34,35,36,37,38,39,40,41,42,43,44,45,46,47]
def BG0:Cd:=td [48,49]
def BGz:Cd:=.ret
def BGy:Cd:=.seq (.seq (.reg false [mv 48 0,
    mv 49 1,
    mv 8 48,
    mv 9 49,
    ci 10 11]) (BG0)) (BGz)
def BG1:Cd:=.skip
def BGw:Cd:=.cond (.t 31) (.seq (td [31]) (BGy)) (.seq (td [31]) (BG1))
def BGv:Cd:=.seq (.seq (.reg false [mv 32 0,
    mv 33 2,
    bi 34 .sub 32 33,
    mv 35 3,
    bi 36 .add 34 35,
    o_ 37 (.call (.f 111) [(.t 36)] [.d .bool] [] false),
    nt 38 37,
    mv 39 38,
    og 40 (.move (.t 1)) 39 false,
    og 41 (.move (.t 3)) 39 false,
    og 42 (.bin .sub (.t 40) (.t 41)) 39 false,
    og 43 (.move (.t 2)) 39 false,
    og 44 (.bin .add (.t 42) (.t 43)) 39 false,
    og 45 (.call (.f 111) [(.t 44)] [.d .bool] [] false) 39 false,
    og 46 (.not (.t 45)) 39 false,
    o_ 47 (.pick (.t 39) (.c .bool true) (.t 46)),
    mv 31 47]) (BGx)) (BGw)
def BXc:Cd:=.cond (.t 20) (.seq (td [20]) (BGs)) (.seq (td [20]) (BGv))
def BXb:Cd:=.seq (.seq (.reg false [mv 21 2,
    mv 22 0,
    bi 23 .gtr 21 22,
    mv 24 23,
    og 25 (.move (.t 3)) 24 false,
    og 26 (.move (.t 1)) 24 false,
    og 27 (.bin .gtr (.t 25) (.t 26)) 24 false,
    o_ 28 (.pick (.t 24) (.c .bool true) (.t 27)),
    mv 20 28]) (BXd)) (BXc)
def BW6:Cd:=.cond (.t 11) (.seq (td [11]) (BW8)) (.seq (td [11]) (BXb))
def BG3:Cd:=td [50,51,52,53,54,55,56,57,58,59]
def BG2:Cd:=.ret
def BW5:Cd:=.seq (.seq (.reg false [mv 50 0,
    mv 51 2,
    bi 52 .sub 50 51,
    mv 53 3,
    bi 54 .add 52 53,
    mv 55 1,
    mv 56 3,
    bi 57 .sub 55 56,
    mv 58 2,
    bi 59 .add 57 58,
    mv 8 54,
    mv 9 59,
    ci 10 0]) (BG3)) (BG2)
def BW4:Cd:=.seq (.block 0 (.seq (.seq (.reg false [mv 12 2,
    bc 13 .lss 12 0,
    mv 14 13,
    og 15 (.move (.t 3)) 14 false,
    og 16 (.bin .lss (.t 15) (.c (.int .i64) (0:Int))) 14 false,
    o_ 17 (.pick (.t 14) (.c .bool true) (.t 16)),
    mv 11 17]) (BW7)) (BW6))) (BW5)
def Kb.fn:Fn:=⟨4,[.tmp 8,.tmp 9,.tmp 10],.seq (.reg false [ci 8 0,
    ci 9 0,
    ci 10 0]) (BW4)⟩
def BQd:Cd:=td [20,21,22,23,24,25,26,27]
def BQf:Cd:=td [28]
def BQi:Cd:=td [30,31,32,33,34,35,36,37,38]
def BCs:Cd:=td [39]
def BQk:Cd:=.ret
def BQj:Cd:=.seq (.seq (.reg false [ld 39 Za 3,
    sr Za 6 39,
    ci 7 3]) (BCs)) (BQk)
def BCv:Cd:=td [41,42,43]
def BCy:Cd:=td [44]
def BCx:Cd:=.ret
def BCw:Cd:=.seq (.seq (.reg false [ld 44 Za 3,
    sr Za 6 44,
    ci 7 12]) (BCy)) (BCx)
def BC1:Cd:=td [46,47,48,49,50,51,52,53,54,55,56]
def BC4:Cd:=td [57]
def BC3:Cd:=.ret
def BC2:Cd:=.seq (.seq (.reg false [ld 57 Za 3,
    sr Za 6 57,
    ci 7 5]) (BC4)) (BC3)
def BC7:Cd:=td [59,60]
def BDa:Cd:=td [61]
def BC9:Cd:=.ret
def BC8:Cd:=.seq (.seq (.reg false [ld 61 Za 3,
    sr Za 6 61,
    ci 7 13]) (BDa)) (BC9)
def BDd:Cd:=td [63,64,65,66,67,68,69,70,71,72,73,74]
def BDg:Cd:=td [75]
def BDf:Cd:=.ret
def BDe:Cd:=.seq (.seq (.reg false [ld 75 Za 3,
    sr Za 6 75,
    ci 7 5]) (BDg)) (BDf)
def BDh:Cd:=.skip
def BDc:Cd:=.cond (.t 62) (.seq (td [62]) (BDe)) (.seq (td [62]) (BDh))
def BDb:Cd:=.seq (.seq (.reg false [mv 63 10,
    fa 64 Z6 5 5,
    o_ 65 (.load (.d (.sl (.int .i64))) (.t 64)),
    mv 66 1,
    o_ 67 (.call (.t 63) [(.t 65),(.t 66)] [.d .bool] [] false),
    mv 68 67,
    og 69 (.move (.t 10)) 68 false,
    og 70 (.fieldAddr (.d Z6) 7 (.t 5)) 68 false,
    og 71 (.load (.d (.sl (.int .i64))) (.t 70)) 68 false,
    og 72 (.move (.t 8)) 68 false,
    og 73 (.call (.t 69) [(.t 71),(.t 72)] [.d .bool] [] false) 68 false,
    o_ 74 (.pick (.t 68) (.c .bool true) (.t 73)),
    mv 62 74]) (BDd)) (BDc)
def BC6:Cd:=.cond (.t 58) (.seq (td [58]) (BC8)) (.seq (td [58]) (BDb))
def BC5:Cd:=.seq (.seq (.reg false [mv 59 9,
    o_ 60 (.call (.f 98) [(.t 59)] [.d .bool] [] false),
    mv 58 60]) (BC7)) (BC6)
def BC0:Cd:=.cond (.t 45) (.seq (td [45]) (BC2)) (.seq (td [45]) (BC5))
def BCz:Cd:=.seq (.seq (.reg true [od 46 (.fieldAddr (.d Za) 1 (.t 3)) [0] [],
    od 47 (.load (.d (.sl (.int .i64))) (.t 46)) [0] [],
    mv 48 8,
    ix 49 (.sl (.int .i64)) 47 48,
    ld 50 (.int .i64) 49,
    od 51 (.fieldAddr (.d Za) 1 (.t 3)) [0] [],
    od 52 (.load (.d (.sl (.int .i64))) (.t 51)) [0] [],
    mv 53 1,
    ix 54 (.sl (.int .i64)) 52 53,
    ld 55 (.int .i64) 54,
    bi 56 .neq 50 55,
    mv 45 56]) (BC1)) (BC0)
def BCu:Cd:=.cond (.t 40) (.seq (td [40]) (BCw)) (.seq (td [40]) (BCz))
def BCt:Cd:=.seq (.seq (.reg false [mv 41 8,
    mv 42 1,
    bi 43 .eql 41 42,
    mv 40 43]) (BCv)) (BCu)
def BQh:Cd:=.cond (.t 29) (.seq (td [29]) (BQj)) (.seq (td [29]) (BCt))
def BDj:Cd:=td [76,77,78,79,80,81,82]
def BDm:Cd:=td [83,84,85,86,87,88,89,90,91,92,93,94,95,96]
def BDp:Cd:=td [98]
def BDo:Cd:=.ret
def BDn:Cd:=.seq (.seq (.reg false [ld 98 Za 3,
    sr Za 6 98,
    ci 7 9]) (BDp)) (BDo)
def BDq:Cd:=.skip
def BDl:Cd:=.cond (.t 97) (.seq (td [97]) (BDn)) (.seq (td [97]) (BDq))
def BDs:Cd:=td [99,100,101,102,103,104,105,106,107,108,109,110,111,112,113,114,115,116,117]
def BDv:Cd:=td [118]
def BDy:Cd:=td [120,121]
def BDx:Cd:=.ret
def BDw:Cd:=.seq (.seq (.reg false [ld 120 Za 3,
    mv 121 14,
    sr Za 6 120,
    mv 7 121]) (BDy)) (BDx)
def BDz:Cd:=.skip
def BDu:Cd:=.cond (.t 119) (.seq (td [119]) (BDw)) (.seq (td [119]) (BDz))
def BD1:Cd:=td [122,123]
def BD3:Cd:=td [124,125,126,127,128,129,130,131,132,133]
def BD5:Cd:=td [134]
def BD9:Cd:=.skip
def BEf:Cd:=.exit 1
def BEc:Cd:=td [139,140]
def BEd:Cd:=td [141,142,143,144,145,146]
def BEb:Cd:=.seq (.reg true [od 141 (.fieldAddr (.d Za) 3 (.t 15)) [4] [],
    od 142 (.load (.d (.sl Zb)) (.t 141)) [4] [],
    mv 143 17,
    mv 144 8,
    o_ 145 (.call (.f 93) [(.t 144)] [.d Zb] [] false),
    od 146 (.index (.sl Zb) (.t 142) (.t 143)) [6] [],
    ⟨none,.store (.d Zb) (.t 146) (.t 145),none,[],[6]⟩]) (BEd)
def BEe:Cd:=td [147]
def BEa:Cd:=.seq (.reg false [bc 147 .add 137 1,
    mv 137 147]) (BEe)
def BD8:Cd:=.seq (.block 2 (.seq (.seq (.reg false [ix 139 (.sl (.int .i64)) 135 137,
    ld 140 (.int .i64) 139,
    mv 17 140]) (BEc)) (BEb))) (BEa)
def BD7:Cd:=.seq (.cond (.t 138) (.seq (td [138]) (BD9)) (.seq (td [138]) (BEf))) (BD8)
def BD6:Cd:=.tidy [17] [] [] (some 7)
def AL6:Cd:=.seq (.seq (.reg false [bi 138 .lss 137 136]) (BD7)) (BD6)
def BD4:Cd:=.block 1 (.loop (AL6))
def BEh:Cd:=td [148]
def BEl:Cd:=.skip
def BEr:Cd:=.exit 3
def BEo:Cd:=td [153,154]
def BEp:Cd:=td [155,156,157,158,159,160]
def BEn:Cd:=.seq (.reg true [od 155 (.fieldAddr (.d Za) 3 (.t 15)) [4] [],
    od 156 (.load (.d (.sl Zb)) (.t 155)) [4] [],
    mv 157 19,
    mv 158 1,
    o_ 159 (.call (.f 93) [(.t 158)] [.d Zb] [] false),
    od 160 (.index (.sl Zb) (.t 156) (.t 157)) [6] [],
    ⟨none,.store (.d Zb) (.t 160) (.t 159),none,[],[6]⟩]) (BEp)
def BEq:Cd:=td [161]
def BEm:Cd:=.seq (.reg false [bc 161 .add 151 1,
    mv 151 161]) (BEq)
def BEk:Cd:=.seq (.block 4 (.seq (.seq (.reg false [ix 153 (.sl (.int .i64)) 149 151,
    ld 154 (.int .i64) 153,
    mv 19 154]) (BEo)) (BEn))) (BEm)
def BEj:Cd:=.seq (.cond (.t 152) (.seq (td [152]) (BEl)) (.seq (td [152]) (BEr))) (BEk)
def BEi:Cd:=.tidy [19] [] [] (some 7)
def AL8:Cd:=.seq (.seq (.reg false [bi 152 .lss 151 150]) (BEj)) (BEi)
def BEg:Cd:=.block 3 (.loop (AL8))
def BEt:Cd:=td [162]
def BEs:Cd:=.ret
def AL7:Cd:=.seq (.seq (.reg false [ld 162 Za 15,
    sr Za 6 162,
    ci 7 0]) (BEt)) (BEs)
def AL5:Cd:=.seq (.seq (.seq (.reg false [fa 148 Z6 7 5,
    o_ 149 (.load (.d (.sl (.int .i64))) (.t 148)),
    le 150 149,
    ci 151 0]) (BEh)) (BEg)) (AL7)
def BD2:Cd:=.seq (.seq (.seq (.reg false [fa 134 Z6 5 5,
    o_ 135 (.load (.d (.sl (.int .i64))) (.t 134)),
    le 136 135,
    ci 137 0]) (BD5)) (BD4)) (AL5)
def BD0:Cd:=.seq (.seq (.reg true [od 124 (.fieldAddr (.d Za) 2 (.t 15)) [4] [],
    od 125 (.load (.d (.sl (.int .i64))) (.t 124)) [4] [],
    mv 126 1,
    od 127 (.fieldAddr (.d Za) 2 (.t 15)) [4] [],
    od 128 (.load (.d (.sl (.int .i64))) (.t 127)) [4] [],
    mv 129 8,
    mv 130 12,
    mv 131 13,
    od 132 (.index (.sl (.int .i64)) (.t 125) (.t 126)) [5] [],
    ⟨none,.store (.d (.int .i64)) (.t 132) (.t 130),none,[],[5]⟩,
    od 133 (.index (.sl (.int .i64)) (.t 128) (.t 129)) [5] [],
    ⟨none,.store (.d (.int .i64)) (.t 133) (.t 131),none,[],[5]⟩]) (BD3)) (BD2)
def BDt:Cd:=.seq (.seq (.reg false [ld 122 Za 3,
    o_ 123 (.call (.f 30) [(.t 122)] [.d Za] [((0,[2]),5),((0,[3]),6)] false),
    nb 15 4 Za,
    sr Za 15 123]) (BD1)) (BD0)
def BDr:Cd:=.seq (.seq (.seq (.reg false [mv 118 14,
    bc 119 .neq 118 0]) (BDv)) (BDu)) (BDt)
def BDk:Cd:=.seq (.seq (.reg true [od 100 (.fieldAddr (.d Za) 2 (.t 3)) [0] [],
    od 101 (.load (.d (.sl (.int .i64))) (.t 100)) [0] [],
    mv 102 1,
    ix 103 (.sl (.int .i64)) 101 102,
    ld 104 (.int .i64) 103,
    od 105 (.fieldAddr (.d Za) 2 (.t 3)) [0] [],
    od 106 (.load (.d (.sl (.int .i64))) (.t 105)) [0] [],
    mv 107 8,
    ix 108 (.sl (.int .i64)) 106 107,
    ld 109 (.int .i64) 108,
    od 110 (.fieldAddr (.d Z6) 6 (.t 5)) [1] [],
    od 111 (.load (.d (.int .i64)) (.t 110)) [1] [],
    od 112 (.fieldAddr (.d Z6) 8 (.t 5)) [1] [],
    od 113 (.load (.d (.int .i64)) (.t 112)) [1] [],
    o_ 114 (.call (.f 99) [(.t 104),(.t 109),(.t 111),(.t 113)] [.d (.int .i64),.d (.int .i64),.d (.int .i64)] [] false),
    mv 99 114,
    xt 115 99 0,
    xt 116 99 1,
    xt 117 99 2,
    mv 12 115,
    mv 13 116,
    mv 14 117]) (BDs)) (BDr)
def BDi:Cd:=.seq (.seq (.seq (.reg true [od 83 (.load (.d Za) (.t 3)) [0] [],
    mv 84 1,
    o_ 85 (.call (.f 93) [(.t 84)] [.d Zb] [] false),
    o_ 86 (.call (.f 84) [(.t 83),(.t 85)] [.d (.int .i64)] [] false),
    mv 87 11,
    bi 88 .lss 86 87,
    mv 89 88,
    ogd 90 (.load (.d Za) (.t 3)) 89 false [0],
    og 91 (.move (.t 8)) 89 false,
    og 92 (.call (.f 93) [(.t 91)] [.d Zb] [] false) 89 false,
    og 93 (.call (.f 84) [(.t 90),(.t 92)] [.d (.int .i64)] [] false) 89 false,
    og 94 (.move (.t 11)) 89 false,
    og 95 (.neg (.t 94)) 89 false,
    og 96 (.bin .lss (.t 93) (.t 95)) 89 false,
    o_ 97 (.pick (.t 89) (.c .bool true) (.t 96))]) (BDm)) (BDl)) (BDk)
def BQg:Cd:=.seq (.seq (.reg false [fa 76 Z6 7 5,
    o_ 77 (.load (.d (.sl (.int .i64))) (.t 76)),
    le 78 77,
    fa 79 Z6 5 5,
    o_ 80 (.load (.d (.sl (.int .i64))) (.t 79)),
    le 81 80,
    bi 82 .sub 78 81,
    mv 11 82]) (BDj)) (BDi)
def BQe:Cd:=.seq (.block 0 (.seq (.seq (.reg false [ld 30 Za 3,
    mv 31 8,
    o_ 32 (.call (.f 92) [(.t 30),(.t 31)] [.d .bool] [] false),
    nt 33 32,
    mv 34 33,
    og 35 (.move (.t 9)) 34 false,
    og 36 (.func 97 [(.t 3)]) 34 false,
    og 37 (.call (.f 62) [(.t 35),(.t 36)] [.d .bool] [] false) 34 false,
    o_ 38 (.pick (.t 34) (.c .bool true) (.t 37)),
    mv 29 38]) (BQi)) (BQh))) (BQg)
def BQc:Cd:=.seq (.seq (.reg false [o_ 28 (.func 95 [(.t 3)]),
    mv 10 28]) (BQf)) (BQe)
def BQb:Cd:=.seq (.seq (.reg true [od 20 (.fieldAddr (.d Z6) 4 (.t 5)) [1] [],
    od 21 (.load (.d (.int .i64)) (.t 20)) [1] [],
    od 22 (.fieldAddr (.d Z6) 5 (.t 5)) [1] [],
    od 23 (.load (.d (.sl (.int .i64))) (.t 22)) [1] [],
    od 24 (.fieldAddr (.d Z6) 7 (.t 5)) [1] [],
    od 25 (.load (.d (.sl (.int .i64))) (.t 24)) [1] [],
    od 26 (.slice 3 (.sl (.int .i64)) [(.t 23),(.t 25)]) [] [3],
    od 27 (.call (.f 94) [(.t 26)] [.d (.sl (.int .i64))] [] false) [] [3],
    mv 8 21,
    mv 9 27]) (BQd)) (BQc)
def Z7.fn:Fn:=⟨3,[.cell 6 (.d Za),.tmp 7],.seq (.reg false [bx 3 0 0,
    bx 5 1 2,
    nb 6 2 Za,
    ci 7 0]) (BQb)⟩
def BRv:Cd:=td [7]
def BRy:Cd:=td [9,10]
def BRx:Cd:=.ret
def BRw:Cd:=.seq (.seq (.reg false [mv 9 2,
    o_ 10 (.build Xg [(0,(.t 9))] []),
    sr Xg 6 10]) (BRy)) (BRx)
def BRz:Cd:=.skip
def BRu:Cd:=.cond (.t 8) (.seq (td [8]) (BRw)) (.seq (td [8]) (BRz))
def BR1:Cd:=td [11,12,13]
def BR0:Cd:=.ret
def BRt:Cd:=.seq (.seq (.reg false [mv 11 0,
    mv 12 1,
    o_ 13 (.build Xg [(1,(.t 11)),(2,(.t 12))] []),
    sr Xg 6 13]) (BR1)) (BR0)
def BRs:Cd:=.seq (.seq (.seq (.reg false [mv 7 2,
    bc 8 .neq 7 0]) (BRv)) (BRu)) (BRt)
def Yh.fn:Fn:=⟨3,[.cell 6 (.d Xg)],.seq (.reg false [nb 6 0 Xg]) (BRs)⟩
def BSj:Cd:=td [11,12,13,14,15,16,17,18]
def BSl:Cd:=td [19,20,21,22,23]
def BSk:Cd:=.ret
def BSi:Cd:=.seq (.seq (.reg true [od 19 (.load (.d Za) (.t 9)) [4] [],
    od 20 (.fieldAddr (.d Z6) 0 (.t 6)) [1] [],
    od 21 (.load (.d (.int .i64)) (.t 20)) [1] [],
    mv 22 10,
    o_ 23 (.call (.f 65) [(.t 21),(.c (.int .i64) (0:Int)),(.t 22)] [.d Xg] [] false),
    ⟨none,.store (.d Za) (.t 7) (.t 19),none,[],[2]⟩,
    ⟨none,.store (.d Xg) (.t 8) (.t 23),none,[],[3]⟩]) (BSl)) (BSk)
def BSh:Cd:=.seq (.seq (.reg false [o_ 12 (.load (.v false 1) (.t 3)),
    ld 13 Za 4,
    mv 14 1,
    ld 15 Z6 6,
    o_ 16 (.call (.t 12) [(.t 13),(.t 14),(.t 15)] [.d Za,.d (.int .i64)] [] false),
    mv 11 16,
    xt 17 11 0,
    xt 18 11 1,
    nb 9 4 Za,
    sr Za 9 17,
    mv 10 18]) (BSj)) (BSi)
def Qs.fn:Fn:=⟨4,[.cell 7 (.d Za),.cell 8 (.d Xg)],.seq (.reg false [bx 4 0 0,
    bx 6 1 2,
    nb 7 2 Za,
    nb 8 3 Xg]) (BSh)⟩
def BVt:Cd:=td [8,9]
def BVv:Cd:=td [10,11,12,13,14]
def BVx:Cd:=td [15]
def BVw:Cd:=.ret
def BVu:Cd:=.seq (.seq (.reg false [ld 15 Za 7,
    sr Za 6 15]) (BVx)) (BVw)
def BVs:Cd:=.seq (.seq (.reg false [fa 10 Za 3 7,
    ld 11 (.sl Zb) 10,
    mv 12 1,
    ld 13 Zb 5,
    ix 14 (.sl Zb) 11 12,
    sr Zb 14 13]) (BVv)) (BVu)
def BVr:Cd:=.seq (.seq (.reg false [ld 8 Za 3,
    o_ 9 (.call (.f 30) [(.t 8)] [.d Za] [((0,[3]),4)] false),
    nb 7 3 Za,
    sr Za 7 9]) (BVt)) (BVs)
def K8.fn:Fn:=⟨3,[.cell 6 (.d Za)],.seq (.reg false [bx 3 0 0,
    bx 5 1 2,
    nb 6 2 Za]) (BVr)⟩
def BP4:Cd:=td [11,12,13,14,15,16,17,18,19,20]
def BP7:Cd:=td [21]
def BP6:Cd:=.ret
def BP5:Cd:=.seq (.seq (.reg false [ld 21 Za 4,
    sr Za 8 21,
    ci 9 3]) (BP7)) (BP6)
def BQa:Cd:=td [23,24,25]
def BCc:Cd:=td [26]
def BCb:Cd:=.ret
def BCa:Cd:=.seq (.seq (.reg false [ld 26 Za 4,
    sr Za 8 26,
    ci 9 12]) (BCc)) (BCb)
def BCf:Cd:=td [28,29,30,31,32,33,34,35,36,37,38,39,40,41,42,43,44,45,46,47,48]
def BCi:Cd:=td [49]
def BCh:Cd:=.ret
def BCg:Cd:=.seq (.seq (.reg false [ld 49 Za 4,
    sr Za 8 49,
    ci 9 5]) (BCi)) (BCh)
def BCl:Cd:=td [51,52,53,54,55]
def BCo:Cd:=td [56]
def BCn:Cd:=.ret
def BCm:Cd:=.seq (.seq (.reg false [ld 56 Za 4,
    sr Za 8 56,
    ci 9 9]) (BCo)) (BCn)
def BCp:Cd:=.skip
def BCk:Cd:=.cond (.t 50) (.seq (td [50]) (BCm)) (.seq (td [50]) (BCp))
def BCj:Cd:=.seq (.seq (.reg true [od 51 (.load (.d Za) (.t 4)) [0] [],
    mv 52 3,
    o_ 53 (.call (.f 93) [(.t 52)] [.d Zb] [] false),
    o_ 54 (.call (.f 84) [(.t 51),(.t 53)] [.d (.int .i64)] [] false),
    bc 55 .lss 54 1,
    mv 50 55]) (BCl)) (BCk)
def BCe:Cd:=.cond (.t 27) (.seq (td [27]) (BCg)) (.seq (td [27]) (BCj))
def BCd:Cd:=.seq (.seq (.reg true [od 28 (.fieldAddr (.d Za) 1 (.t 4)) [0] [],
    od 29 (.load (.d (.sl (.int .i64))) (.t 28)) [0] [],
    mv 30 3,
    ix 31 (.sl (.int .i64)) 29 30,
    ld 32 (.int .i64) 31,
    od 33 (.fieldAddr (.d Za) 1 (.t 4)) [0] [],
    od 34 (.load (.d (.sl (.int .i64))) (.t 33)) [0] [],
    mv 35 1,
    ix 36 (.sl (.int .i64)) 34 35,
    ld 37 (.int .i64) 36,
    bi 38 .neq 32 37,
    mv 39 38,
    ogd 40 (.fieldAddr (.d Za) 3 (.t 4)) 39 false [0],
    ogd 41 (.load (.d (.sl Zb)) (.t 40)) 39 false [0],
    og 42 (.move (.t 2)) 39 false,
    og 43 (.index (.sl Zb) (.t 41) (.t 42)) 39 false,
    og 44 (.load (.d Zb) (.t 43)) 39 false,
    og 45 (.move (.t 1)) 39 false,
    og 46 (.call (.f 93) [(.t 45)] [.d Zb] [] false) 39 false,
    og 47 (.eqs Zb true (.t 44) (.t 46)) 39 false,
    o_ 48 (.pick (.t 39) (.c .bool true) (.t 47)),
    mv 27 48]) (BCf)) (BCe)
def BP9:Cd:=.cond (.t 22) (.seq (td [22]) (BCa)) (.seq (td [22]) (BCd))
def BP8:Cd:=.seq (.seq (.reg false [mv 23 3,
    mv 24 1,
    bi 25 .eql 23 24,
    mv 22 25]) (BQa)) (BP9)
def BP3:Cd:=.cond (.t 10) (.seq (td [10]) (BP5)) (.seq (td [10]) (BP8))
def BCr:Cd:=td [57,58,59,60,61]
def BCq:Cd:=.ret
def BP2:Cd:=.seq (.seq (.reg true [od 57 (.load (.d Za) (.t 4)) [0] [],
    mv 58 2,
    mv 59 3,
    o_ 60 (.call (.f 93) [(.t 59)] [.d Zb] [] false),
    o_ 61 (.call (.f 85) [(.t 57),(.t 58),(.t 60)] [.d Za] [] false),
    ⟨none,.store (.d Za) (.t 8) (.t 61),none,[],[1]⟩,
    ci 9 0]) (BCr)) (BCq)
def BP1:Cd:=.seq (.block 0 (.seq (.seq (.reg false [ld 11 Za 4,
    mv 12 2,
    o_ 13 (.call (.f 91) [(.t 11),(.t 12)] [.d .bool] [] false),
    nt 14 13,
    mv 15 14,
    og 16 (.load (.d Za) (.t 4)) 15 false,
    og 17 (.move (.t 3)) 15 false,
    og 18 (.call (.f 92) [(.t 16),(.t 17)] [.d .bool] [] false) 15 false,
    og 19 (.not (.t 18)) 15 false,
    o_ 20 (.pick (.t 15) (.c .bool true) (.t 19)),
    mv 10 20]) (BP4)) (BP3))) (BP2)
def Vk.fn:Fn:=⟨4,[.cell 8 (.d Za),.tmp 9],.seq (.reg false [bx 4 0 0,
    nb 8 1 Za,
    ci 9 0]) (BP1)⟩
def BP0:Cd:=td [8,9,10,11,12,13,14,15,16]
def BPz:Cd:=.ret
def BPy:Cd:=.seq (.seq (.reg false [ld 8 Za 3,
    mv 9 1,
    fa 10 Z6 2 5,
    ld 11 (.int .i64) 10,
    fa 12 Z6 4 5,
    ld 13 (.int .i64) 12,
    o_ 14 (.call (.f 52) [(.t 8),(.t 9),(.t 11),(.t 13)] [.d Za,.d (.int .i64)] [] false),
    xt 15 14 0,
    xt 16 14 1,
    sr Za 6 15,
    mv 7 16]) (BP0)) (BPz)
def Qq.fn:Fn:=⟨3,[.cell 6 (.d Za),.tmp 7],.seq (.reg false [bx 3 0 0,
    bx 5 1 2,
    nb 6 2 Za,
    ci 7 0]) (BPy)⟩
def BUq:Cd:=td [5,6,7,8,9,10,11,12,13]
def BUp:Cd:=.ret
def BUo:Cd:=.seq (.seq (.reg false [mv 5 1,
    bc 6 .lss 5 0,
    mv 7 6,
    og 8 (.move (.t 1)) 7 false,
    og 9 (.fieldAddr (.d Za) 3 (.t 2)) 7 false,
    og 10 (.load (.d (.sl Zb)) (.t 9)) 7 false,
    og 11 (.len (.t 10)) 7 false,
    og 12 (.bin .geq (.t 8) (.t 11)) 7 false,
    o_ 13 (.pick (.t 7) (.c .bool true) (.t 12)),
    mv 4 13]) (BUq)) (BUp)
def Q2.fn:Fn:=⟨2,[.tmp 4],.seq (.reg false [bx 2 0 0,
    o_ 4 (.move (.c .bool false))]) (BUo)⟩
def BV0:Cd:=td [4,5,6,7,8,9,10,11]
def BVz:Cd:=.ret
def BVy:Cd:=.seq (.seq (.reg false [ld 4 Za 0,
    ld 5 (.int .i64) 1,
    o_ 6 (.call (.f 74) [(.t 4),(.t 5)] [.d .bool] [] false),
    mv 7 6,
    og 8 (.load (.d Za) (.t 0)) 7 false,
    og 9 (.load (.d (.int .i64)) (.t 2)) 7 false,
    og 10 (.call (.f 74) [(.t 8),(.t 9)] [.d .bool] [] false) 7 false,
    o_ 11 (.pick (.t 7) (.c .bool true) (.t 10)),
    mv 3 11]) (BV0)) (BVz)
def Yk.fn:Fn:=⟨3,[.tmp 3],.seq (.reg false [o_ 3 (.move (.c .bool false))]) (BVy)⟩
def BUw:Cd:=td [8,9,10]
def BUy:Cd:=td [11,12,13,14,15,16,17,18,19,20,21,22,23,24]
def BUx:Cd:=.ret
def BUv:Cd:=.seq (.seq (.reg true [od 11 (.load (.d Zb) (.t 7)) [1] [],
    od 12 (.fieldAddr (.d Za) 1 (.t 3)) [0] [],
    od 13 (.load (.d (.sl (.int .i64))) (.t 12)) [0] [],
    mv 14 1,
    ix 15 (.sl (.int .i64)) 13 14,
    ld 16 (.int .i64) 15,
    o_ 17 (.build Zb [(0,(.c (.int .i64) (0:Int))),(1,(.t 16))] []),
    o_ 18 (.eqs Zb false (.t 11) (.t 17)),
    mv 19 18,
    ogd 20 (.load (.d Zb) (.t 7)) 19 false [1],
    og 21 (.move (.t 1)) 19 false,
    og 22 (.build Zb [(0,(.c (.int .i64) (1:Int))),(1,(.t 21))] []) 19 false,
    og 23 (.eqs Zb false (.t 20) (.t 22)) 19 false,
    o_ 24 (.pick (.t 19) (.c .bool true) (.t 23)),
    mv 6 24]) (BUy)) (BUx)
def BUu:Cd:=.seq (.seq (.reg false [ld 8 Za 3,
    mv 9 2,
    o_ 10 (.call (.f 106) [(.t 8),(.t 9)] [.d Zb] [] false),
    nb 7 1 Zb,
    sr Zb 7 10]) (BUw)) (BUv)
def Jz.fn:Fn:=⟨3,[.tmp 6],.seq (.reg false [bx 3 0 0,
    o_ 6 (.move (.c .bool false))]) (BUu)⟩
def BV3:Cd:=td [4,5,6,7,8]
def BV2:Cd:=.ret
def BV1:Cd:=.seq (.seq (.reg false [ld 4 Za 0,
    ld 5 (.int .i64) 1,
    ld 6 (.int .i64) 2,
    o_ 7 (.call (.f 76) [(.t 4),(.t 5),(.t 6)] [.d .bool] [] false),
    nt 8 7,
    mv 3 8]) (BV3)) (BV2)
def Qt.fn:Fn:=⟨3,[.tmp 3],.seq (.reg false [o_ 3 (.move (.c .bool false))]) (BV1)⟩
def BV6:Cd:=td [3,4,5,6,7,8,9]
def BV5:Cd:=.ret
def BV4:Cd:=.seq (.seq (.reg false [fa 3 Za 0 0,
    fa 4 Z0 4 3,
    ld 5 (.sl .bool) 4,
    ld 6 (.int .i64) 1,
    ix 7 (.sl .bool) 5 6,
    ld 8 .bool 7,
    nt 9 8,
    mv 2 9]) (BV6)) (BV5)
def Qu.fn:Fn:=⟨2,[.tmp 2],.seq (.reg false [o_ 2 (.move (.c .bool false))]) (BV4)⟩
def BV9:Cd:=td [4,5,6,7,8,9,10]
def BV8:Cd:=.ret
def BV7:Cd:=.seq (.seq (.reg true [fa 4 Za 3 0,
    ld 5 (.sl Zb) 4,
    ld 6 (.int .i64) 1,
    ix 7 (.sl Zb) 5 6,
    ld 8 Zb 7,
    ld 9 Zb 2,
    o_ 10 (.eqs Zb true (.t 8) (.t 9)),
    mv 3 10]) (BV9)) (BV8)
def Qv.fn:Fn:=⟨3,[.tmp 3],.seq (.reg false [o_ 3 (.move (.c .bool false))]) (BV7)⟩
def BWd:Cd:=td [3,4,5,6]
def BWc:Cd:=.ret
def BWb:Cd:=.seq (.seq (.reg false [ld 3 Za 0,
    ld 4 Zb 1,
    o_ 5 (.call (.f 84) [(.t 3),(.t 4)] [.d (.int .i64)] [] false),
    bc 6 .lss 5 1,
    mv 2 6]) (BWd)) (BWc)
def Qw.fn:Fn:=⟨2,[.tmp 2],.seq (.reg false [o_ 2 (.move (.c .bool false))]) (BWb)⟩
def BUi:Cd:=.skip
def BF1:Cd:=.exit 0
def BFt:Cd:=td [9,10]
def BFv:Cd:=td [11,12]
def BFy:Cd:=td [14,15]
def BFx:Cd:=.ret
def BFw:Cd:=.seq (.seq (.reg false [o_ 14 (.fieldAddr (.v [1,1]) 1 (.t 4)),
    ld 15 (.int .i64) 14,
    mv 2 15]) (BFy)) (BFx)
def BFz:Cd:=.skip
def BFu:Cd:=.cond (.t 13) (.seq (td [13]) (BFw)) (.seq (td [13]) (BFz))
def BUk:Cd:=.seq (.seq (.reg false [o_ 11 (.fieldAddr (.v [1,1]) 0 (.t 4)),
    o_ 12 (.load (.v false 1) (.t 11)),
    o_ 13 (.call (.t 12) [] [.d .bool] [] false)]) (BFv)) (BFu)
def BF0:Cd:=td [16]
def BUj:Cd:=.seq (.reg false [bc 16 .add 7 1,
    mv 7 16]) (BF0)
def BUh:Cd:=.seq (.block 1 (.seq (.seq (.reg false [o_ 9 (.index (.slv 2) (.t 5) (.t 7)),
    o_ 10 (.load (.v true 2) (.t 9)),
    o_ 4 (.newboxv 0 (.agv [.nilfn,.dat (.int .i64) 0 []])),
    on_ (.store (.v true 2) (.t 4) (.t 10))]) (BFt)) (BUk))) (BUj)
def BUg:Cd:=.seq (.cond (.t 8) (.seq (td [8]) (BUi)) (.seq (td [8]) (BF1))) (BUh)
def BUf:Cd:=.tidy [4] [] [] (some 0)
def BUe:Cd:=.seq (.seq (.reg false [bi 8 .lss 7 6]) (BUg)) (BUf)
def BUd:Cd:=.block 0 (.loop (BUe))
def BF2:Cd:=.ret
def BUc:Cd:=.seq (.reg false [ci 2 0]) (BF2)
def BUb:Cd:=.seq (.seq (.reg false [mv 5 0,
    le 6 5,
    ci 7 0]) (BUd)) (BUc)
def Y1.fn:Fn:=⟨1,[.tmp 2],.seq (.reg false [ci 2 0]) (BUb)⟩
def BPq:Cd:=td [13,14,15,16]
def BPs:Cd:=td [17,18,19,20,21,22,23,24,25,26,27,28]
def BPv:Cd:=td [29]
def BB6:Cd:=td [31,32]
def BPx:Cd:=.ret
def BPw:Cd:=.seq (.seq (.reg false [ld 31 Za 4,
    mv 32 12,
    sr Za 8 31,
    mv 9 32]) (BB6)) (BPx)
def BB7:Cd:=.skip
def BPu:Cd:=.cond (.t 30) (.seq (td [30]) (BPw)) (.seq (td [30]) (BB7))
def BB9:Cd:=td [33,34,35,36]
def BB8:Cd:=.ret
def BPt:Cd:=.seq (.seq (.reg false [ld 33 Za 4,
    ld 34 (.int .i64) 6,
    ld 35 Zb 10,
    o_ 36 (.call (.f 85) [(.t 33),(.t 34),(.t 35)] [.d Za] [] false),
    sr Za 8 36,
    ci 9 0]) (BB9)) (BB8)
def BPr:Cd:=.seq (.seq (.seq (.reg false [mv 29 12,
    bc 30 .neq 29 0]) (BPv)) (BPu)) (BPt)
def BPp:Cd:=.seq (.seq (.reg false [o_ 17 (.func 86 [(.t 4),(.t 6),(.t 7)]),
    o_ 18 (.buildv [1,1] [(.t 17),(.c (.int .i64) (3:Int))]),
    o_ 19 (.func 87 [(.t 4),(.t 5),(.t 7)]),
    o_ 20 (.buildv [1,1] [(.t 19),(.c (.int .i64) (5:Int))]),
    o_ 21 (.func 88 [(.t 4),(.t 7)]),
    o_ 22 (.buildv [1,1] [(.t 21),(.c (.int .i64) (6:Int))]),
    o_ 23 (.func 89 [(.t 4),(.t 6),(.t 11)]),
    o_ 24 (.buildv [1,1] [(.t 23),(.c (.int .i64) (5:Int))]),
    o_ 25 (.func 90 [(.t 4),(.t 10)]),
    o_ 26 (.buildv [1,1] [(.t 25),(.c (.int .i64) (9:Int))]),
    o_ 27 (.slicev 2 [(.t 18),(.t 20),(.t 22),(.t 24),(.t 26)]),
    o_ 28 (.call (.f 72) [(.t 27)] [.d (.int .i64)] [] false),
    mv 12 28]) (BPs)) (BPr)
def BPo:Cd:=.seq (.seq (.reg true [od 13 (.load (.d (.int .i64)) (.t 5)) [1] [],
    o_ 14 (.build Zb [(0,(.c (.int .i64) (1:Int))),(1,(.t 13))] []),
    od 15 (.load (.d (.int .i64)) (.t 7)) [3] [],
    o_ 16 (.build Zb [(0,(.c (.int .i64) (2:Int))),(1,(.t 15))] []),
    od 10 (.newbox 5 Zb []) [] [5],
    od 11 (.newbox 6 Zb []) [] [6],
    ⟨none,.store (.d Zb) (.t 10) (.t 14),none,[],[5]⟩,
    ⟨none,.store (.d Zb) (.t 11) (.t 16),none,[],[6]⟩]) (BPq)) (BPp)
def Vj.fn:Fn:=⟨4,[.cell 8 (.d Za),.tmp 9],.seq (.reg false [bx 4 0 0,
    bx 5 1 1,
    bx 6 2 2,
    bx 7 3 3,
    nb 8 4 Za,
    ci 9 0]) (BPo)⟩
def BO8:Cd:=td [8,9,10,11,12,13,14,15,16]
def BO7:Cd:=.ret
def BO6:Cd:=.seq (.seq (.reg false [ld 8 Za 3,
    mv 9 1,
    fa 10 Z6 2 5,
    ld 11 (.int .i64) 10,
    fa 12 Z6 3 5,
    ld 13 (.int .i64) 12,
    o_ 14 (.call (.f 50) [(.t 8),(.t 9),(.t 11),(.t 13)] [.d Za,.d (.int .i64)] [] false),
    xt 15 14 0,
    xt 16 14 1,
    sr Za 6 15,
    mv 7 16]) (BO8)) (BO7)
def Qp.fn:Fn:=⟨3,[.cell 6 (.d Za),.tmp 7],.seq (.reg false [bx 3 0 0,
    bx 5 1 2,
    nb 6 2 Za,
    ci 7 0]) (BO6)⟩
def BUn:Cd:=td [4,5,6,7,8,9,10,11]
def BUm:Cd:=.ret
def BUl:Cd:=.seq (.seq (.reg false [ld 4 Za 0,
    ld 5 (.int .i64) 1,
    o_ 6 (.call (.f 74) [(.t 4),(.t 5)] [.d .bool] [] false),
    mv 7 6,
    og 8 (.load (.d Za) (.t 0)) 7 false,
    og 9 (.load (.d (.int .i64)) (.t 2)) 7 false,
    og 10 (.call (.f 74) [(.t 8),(.t 9)] [.d .bool] [] false) 7 false,
    o_ 11 (.pick (.t 7) (.c .bool true) (.t 10)),
    mv 3 11]) (BUn)) (BUm)
def Yy.fn:Fn:=⟨3,[.tmp 3],.seq (.reg false [o_ 3 (.move (.c .bool false))]) (BUl)⟩
def BUt:Cd:=td [6,7,8,9,10,11,12,13,14,15,16,17,18,19]
def BUs:Cd:=.ret
def BUr:Cd:=.seq (.seq (.reg true [fa 6 Za 3 0,
    ld 7 (.sl Zb) 6,
    ld 8 (.int .i64) 1,
    ix 9 (.sl Zb) 7 8,
    ld 10 Zb 9,
    ld 11 Zb 2,
    o_ 12 (.eqs Zb true (.t 10) (.t 11)),
    mv 13 12,
    og 14 (.load (.d Za) (.t 0)) 13 false,
    og 15 (.load (.d (.int .i64)) (.t 3)) 13 false,
    og 16 (.load (.d (.int .i64)) (.t 4)) 13 false,
    og 17 (.call (.f 76) [(.t 14),(.t 15),(.t 16)] [.d .bool] [] false) 13 false,
    og 18 (.not (.t 17)) 13 false,
    o_ 19 (.pick (.t 13) (.c .bool true) (.t 18)),
    mv 5 19]) (BUt)) (BUs)
def Jk.fn:Fn:=⟨5,[.tmp 5],.seq (.reg false [o_ 5 (.move (.c .bool false))]) (BUr)⟩
def BU1:Cd:=td [3,4,5,6,7,8,9]
def BU0:Cd:=.ret
def BUz:Cd:=.seq (.seq (.reg false [fa 3 Za 0 0,
    fa 4 Z0 4 3,
    ld 5 (.sl .bool) 4,
    ld 6 (.int .i64) 1,
    ix 7 (.sl .bool) 5 6,
    ld 8 .bool 7,
    nt 9 8,
    mv 2 9]) (BU1)) (BU0)
def Jl.fn:Fn:=⟨2,[.tmp 2],.seq (.reg false [o_ 2 (.move (.c .bool false))]) (BUz)⟩
def BU4:Cd:=td [4,5,6,7]
def BU3:Cd:=.ret
def BU2:Cd:=.seq (.seq (.reg false [ld 4 Za 0,
    ld 5 (.int .i64) 1,
    ld 6 (.int .i64) 2,
    o_ 7 (.call (.f 79) [(.t 4),(.t 5),(.t 6)] [.d .bool] [] false),
    mv 3 7]) (BU4)) (BU3)
def Jm.fn:Fn:=⟨3,[.tmp 3],.seq (.reg false [o_ 3 (.move (.c .bool false))]) (BU2)⟩
def BVa:Cd:=td [5,6,7,8,9,10]
def BU9:Cd:=.ret
def BU8:Cd:=.seq (.seq (.reg false [ld 5 Za 2,
    mv 6 1,
    o_ 7 (.call (.f 107) [(.t 5),(.t 6)] [.clo 112 [.ref Za,.ref (.int .i64)]] [] false),
    o_ 8 (.call (.f 108) [(.t 7)] [.d (.sl Zb)] [] false),
    le 9 8,
    bc 10 .sub 9 1,
    mv 4 10]) (BVa)) (BU9)
def Jg.fn:Fn:=⟨2,[.tmp 4],.seq (.reg false [bx 2 0 0,
    ci 4 0]) (BU8)⟩
def BVe:Cd:=td [7,8]
def BVi:Cd:=.skip
def BGc:Cd:=.exit 0
def BF5:Cd:=td [12]
def BF7:Cd:=td [13,14,15]
def BF9:Cd:=td [17,18,19,20,21,22,23,24,25]
def BF8:Cd:=.seq (.reg true [mv 17 5,
    od 18 (.load (.d Za) (.t 2)) [0] [],
    mv 19 6,
    o_ 20 (.call (.f 81) [(.t 18),(.t 19)] [.d (.int .i64)] [] false),
    od 21 (.load (.d Za) (.t 2)) [0] [],
    mv 22 1,
    o_ 23 (.call (.f 81) [(.t 21),(.t 22)] [.d (.int .i64)] [] false),
    bi 24 .sub 20 23,
    o_ 25 (.max [(.t 17),(.t 24)]),
    mv 5 25]) (BF9)
def BGb:Cd:=.skip
def BF6:Cd:=.cond (.t 16) (.seq (td [16]) (BF8)) (.seq (td [16]) (BGb))
def BF4:Cd:=.seq (.seq (.reg false [ld 13 Za 2,
    mv 14 6,
    mv 15 1,
    o_ 16 (.call (.f 79) [(.t 13),(.t 14),(.t 15)] [.d .bool] [] false)]) (BF7)) (BF6)
def BGa:Cd:=td [26]
def BF3:Cd:=.seq (.reg false [bc 26 .add 10 1,
    mv 10 26]) (BGa)
def BVh:Cd:=.seq (.block 1 (.seq (.seq (.reg false [mv 12 10,
    mv 6 12]) (BF5)) (BF4))) (BF3)
def BVg:Cd:=.seq (.cond (.t 11) (.seq (td [11]) (BVi)) (.seq (td [11]) (BGc))) (BVh)
def BVf:Cd:=.tidy [6] [] [] (some 1)
def AR4:Cd:=.seq (.seq (.reg false [bi 11 .lss 10 9]) (BVg)) (BVf)
def BVd:Cd:=.block 0 (.loop (AR4))
def BGe:Cd:=td [27]
def BGd:Cd:=.ret
def AR3:Cd:=.seq (.seq (.reg false [mv 27 5,
    mv 4 27]) (BGe)) (BGd)
def BVc:Cd:=.seq (.seq (.seq (.reg false [fa 7 Za 3 2,
    ld 8 (.sl Zb) 7,
    le 9 8,
    ci 10 0]) (BVe)) (BVd)) (AR3)
def BVb:Cd:=.seq (.reg false [ci 5 0]) (BVc)
def Xq.fn:Fn:=⟨2,[.tmp 4],.seq (.reg false [bx 2 0 0,
    ci 4 0]) (BVb)⟩
def BU7:Cd:=td [4,5,6,7,8,9,10,11,12]
def BU6:Cd:=.ret
def BU5:Cd:=.seq (.seq (.reg true [ld 4 Za 0,
    ld 5 (.int .i64) 1,
    o_ 6 (.call (.f 81) [(.t 4),(.t 5)] [.d (.int .i64)] [] false),
    bc 7 .add 6 1,
    ld 8 Za 0,
    ld 9 (.int .i64) 2,
    o_ 10 (.call (.f 82) [(.t 8),(.t 9)] [.d (.int .i64)] [] false),
    bi 11 .add 7 10,
    bc 12 .gtr 11 4,
    mv 3 12]) (BU7)) (BU6)
def Jn.fn:Fn:=⟨3,[.tmp 3],.seq (.reg false [o_ 3 (.move (.c .bool false))]) (BU5)⟩
def BVl:Cd:=td [3,4,5,6]
def BVk:Cd:=.ret
def BVj:Cd:=.seq (.seq (.reg false [ld 3 Za 0,
    ld 4 Zb 1,
    o_ 5 (.call (.f 84) [(.t 3),(.t 4)] [.d (.int .i64)] [] false),
    bc 6 .lss 5 1,
    mv 2 6]) (BVl)) (BVk)
def Jo.fn:Fn:=⟨2,[.tmp 2],.seq (.reg false [o_ 2 (.move (.c .bool false))]) (BVj)⟩
def BOy:Cd:=td [13,14,15,16]
def BO0:Cd:=td [17,18,19,20,21,22,23,24,25,26,27,28,29,30]
def BO3:Cd:=td [31]
def BB2:Cd:=td [33,34]
def BO5:Cd:=.ret
def BO4:Cd:=.seq (.seq (.reg false [ld 33 Za 4,
    mv 34 12,
    sr Za 8 33,
    mv 9 34]) (BB2)) (BO5)
def BB3:Cd:=.skip
def BO2:Cd:=.cond (.t 32) (.seq (td [32]) (BO4)) (.seq (td [32]) (BB3))
def BB5:Cd:=td [35,36,37,38]
def BB4:Cd:=.ret
def BO1:Cd:=.seq (.seq (.reg false [ld 35 Za 4,
    ld 36 (.int .i64) 6,
    ld 37 Zb 11,
    o_ 38 (.call (.f 85) [(.t 35),(.t 36),(.t 37)] [.d Za] [] false),
    sr Za 8 38,
    ci 9 0]) (BB5)) (BB4)
def BOz:Cd:=.seq (.seq (.seq (.reg false [mv 31 12,
    bc 32 .neq 31 0]) (BO3)) (BO2)) (BO1)
def BOx:Cd:=.seq (.seq (.reg false [o_ 17 (.func 73 [(.t 4),(.t 6),(.t 7)]),
    o_ 18 (.buildv [1,1] [(.t 17),(.c (.int .i64) (3:Int))]),
    o_ 19 (.func 75 [(.t 4),(.t 6),(.t 10),(.t 5),(.t 7)]),
    o_ 20 (.buildv [1,1] [(.t 19),(.c (.int .i64) (5:Int))]),
    o_ 21 (.func 77 [(.t 4),(.t 7)]),
    o_ 22 (.buildv [1,1] [(.t 21),(.c (.int .i64) (6:Int))]),
    o_ 23 (.func 78 [(.t 4),(.t 7),(.t 6)]),
    o_ 24 (.buildv [1,1] [(.t 23),(.c (.int .i64) (7:Int))]),
    o_ 25 (.func 80 [(.t 4),(.t 7),(.t 6)]),
    o_ 26 (.buildv [1,1] [(.t 25),(.c (.int .i64) (8:Int))]),
    o_ 27 (.func 83 [(.t 4),(.t 11)]),
    o_ 28 (.buildv [1,1] [(.t 27),(.c (.int .i64) (9:Int))]),
    o_ 29 (.slicev 2 [(.t 18),(.t 20),(.t 22),(.t 24),(.t 26),(.t 28)]),
    o_ 30 (.call (.f 72) [(.t 29)] [.d (.int .i64)] [] false),
    mv 12 30]) (BO0)) (BOz)
def BOw:Cd:=.seq (.seq (.reg true [od 13 (.load (.d (.int .i64)) (.t 5)) [1] [],
    o_ 14 (.build Zb [(0,(.c (.int .i64) (1:Int))),(1,(.t 13))] []),
    od 15 (.load (.d (.int .i64)) (.t 7)) [3] [],
    o_ 16 (.build Zb [(0,(.c (.int .i64) (2:Int))),(1,(.t 15))] []),
    od 10 (.newbox 5 Zb []) [] [5],
    od 11 (.newbox 6 Zb []) [] [6],
    ⟨none,.store (.d Zb) (.t 10) (.t 14),none,[],[5]⟩,
    ⟨none,.store (.d Zb) (.t 11) (.t 16),none,[],[6]⟩]) (BOy)) (BOx)
def V9.fn:Fn:=⟨4,[.cell 8 (.d Za),.tmp 9],.seq (.reg false [bx 4 0 0,
    bx 5 1 1,
    bx 6 2 2,
    bx 7 3 3,
    nb 8 4 Za,
    ci 9 0]) (BOw)⟩
def BOv:Cd:=td [8,9,10,11,12,13,14,15,16]
def BOu:Cd:=.ret
def BOt:Cd:=.seq (.seq (.reg false [ld 8 Za 3,
    mv 9 1,
    fa 10 Z6 2 5,
    ld 11 (.int .i64) 10,
    fa 12 Z6 3 5,
    ld 13 (.int .i64) 12,
    o_ 14 (.call (.f 48) [(.t 8),(.t 9),(.t 11),(.t 13)] [.d Za,.d (.int .i64)] [] false),
    xt 15 14 0,
    xt 16 14 1,
    sr Za 6 15,
    mv 7 16]) (BOv)) (BOu)
def Qo.fn:Fn:=⟨3,[.cell 6 (.d Za),.tmp 7],.seq (.reg false [bx 3 0 0,
    bx 5 1 2,
    nb 6 2 Za,
    ci 7 0]) (BOt)⟩
def BT0:Cd:=td [6,7,8,9,10,11,12,13]
def BTz:Cd:=.ret
def BTy:Cd:=.seq (.seq (.reg false [fa 6 Za 1 2,
    o_ 7 (.load (.d (.sl (.int .i64))) (.t 6)),
    mv 8 1,
    ix 9 (.sl (.int .i64)) 7 8,
    ld 10 (.int .i64) 9,
    o_ 11 (.build Zb [(0,(.c (.int .i64) (0:Int))),(1,(.t 10))] []),
    mv 12 1,
    o_ 13 (.build Zb [(0,(.c (.int .i64) (1:Int))),(1,(.t 12))] []),
    sr Zb 4 11,
    sr Zb 5 13]) (BT0)) (BTz)
def Q6.fn:Fn:=⟨2,[.cell 4 (.d Zb),.cell 5 (.d Zb)],.seq (.reg false [bx 2 0 0,
    nb 4 1 Zb,
    nb 5 2 Zb]) (BTy)⟩
def BT4:Cd:=td [11,12,13,14,15,16,17,18,19]
def BT7:Cd:=td [20]
def BT6:Cd:=.ret
def BT5:Cd:=.seq (.seq (.reg false [ld 20 Za 4,
    sr Za 8 20,
    ci 9 3]) (BT7)) (BT6)
def BUa:Cd:=td [22,23,24,25,26,27,28]
def BFj:Cd:=td [29]
def BFi:Cd:=.ret
def BFh:Cd:=.seq (.seq (.reg false [ld 29 Za 4,
    sr Za 8 29,
    ci 9 5]) (BFj)) (BFi)
def BFm:Cd:=td [31,32,33,34]
def BFp:Cd:=td [35]
def BFo:Cd:=.ret
def BFn:Cd:=.seq (.seq (.reg false [ld 35 Za 4,
    sr Za 8 35,
    ci 9 9]) (BFp)) (BFo)
def BFq:Cd:=.skip
def BFl:Cd:=.cond (.t 30) (.seq (td [30]) (BFn)) (.seq (td [30]) (BFq))
def BFk:Cd:=.seq (.seq (.reg false [ld 31 Za 4,
    ld 32 Zb 7,
    o_ 33 (.call (.f 84) [(.t 31),(.t 32)] [.d (.int .i64)] [] false),
    bc 34 .lss 33 1,
    mv 30 34]) (BFm)) (BFl)
def BT9:Cd:=.cond (.t 21) (.seq (td [21]) (BFh)) (.seq (td [21]) (BFk))
def BT8:Cd:=.seq (.seq (.reg true [od 22 (.fieldAddr (.d Za) 3 (.t 4)) [0] [],
    od 23 (.load (.d (.sl Zb)) (.t 22)) [0] [],
    mv 24 1,
    ix 25 (.sl Zb) 23 24,
    ld 26 Zb 25,
    od 27 (.load (.d Zb) (.t 6)) [1] [],
    o_ 28 (.eqs Zb true (.t 26) (.t 27)),
    mv 21 28]) (BUa)) (BT9)
def BT3:Cd:=.cond (.t 10) (.seq (td [10]) (BT5)) (.seq (td [10]) (BT8))
def BFs:Cd:=td [36,37,38,39]
def BFr:Cd:=.ret
def BT2:Cd:=.seq (.seq (.reg false [ld 36 Za 4,
    mv 37 1,
    ld 38 Zb 7,
    o_ 39 (.call (.f 85) [(.t 36),(.t 37),(.t 38)] [.d Za] [] false),
    sr Za 8 39,
    ci 9 0]) (BFs)) (BFr)
def BT1:Cd:=.seq (.block 0 (.seq (.seq (.reg false [mv 11 1,
    bc 12 .lss 11 0,
    mv 13 12,
    og 14 (.move (.t 1)) 13 false,
    og 15 (.fieldAddr (.d Za) 3 (.t 4)) 13 false,
    og 16 (.load (.d (.sl Zb)) (.t 15)) 13 false,
    og 17 (.len (.t 16)) 13 false,
    og 18 (.bin .geq (.t 14) (.t 17)) 13 false,
    o_ 19 (.pick (.t 13) (.c .bool true) (.t 18)),
    mv 10 19]) (BT4)) (BT3))) (BT2)
def Vt.fn:Fn:=⟨4,[.cell 8 (.d Za),.tmp 9],.seq (.reg false [bx 4 0 0,
    bx 6 1 2,
    bx 7 2 3,
    nb 8 3 Za,
    ci 9 0]) (BT1)⟩
def BOq:Cd:=td [10,11,12,13,14,15]
def BOs:Cd:=td [16,17,18,19,20,21,22]
def BOr:Cd:=.ret
def BOp:Cd:=.seq (.seq (.reg false [ld 16 Za 3,
    mv 17 2,
    ld 18 Zb 9,
    ld 19 Zb 8,
    o_ 20 (.call (.f 71) [(.t 16),(.t 17),(.t 18),(.t 19)] [.d Za,.d (.int .i64)] [] false),
    xt 21 20 0,
    xt 22 20 1,
    sr Za 6 21,
    mv 7 22]) (BOs)) (BOr)
def BOo:Cd:=.seq (.seq (.reg false [ld 11 Za 3,
    mv 12 1,
    o_ 13 (.call (.f 70) [(.t 11),(.t 12)] [.d Zb,.d Zb] [] false),
    mv 10 13,
    xt 14 10 0,
    xt 15 10 1,
    nb 8 2 Zb,
    nb 9 3 Zb,
    sr Zb 8 14,
    sr Zb 9 15]) (BOq)) (BOp)
def Kd.fn:Fn:=⟨3,[.cell 6 (.d Za),.tmp 7],.seq (.reg false [bx 3 0 0,
    nb 6 1 Za,
    ci 7 0]) (BOo)⟩
def BOn:Cd:=td [8,9,10,11,12,13,14]
def BOm:Cd:=.ret
def BOl:Cd:=.seq (.seq (.reg false [ld 8 Za 3,
    mv 9 1,
    fa 10 Z6 2 5,
    ld 11 (.int .i64) 10,
    o_ 12 (.call (.f 46) [(.t 8),(.t 9),(.t 11)] [.d Za,.d (.int .i64)] [] false),
    xt 13 12 0,
    xt 14 12 1,
    sr Za 6 13,
    mv 7 14]) (BOn)) (BOm)
def Qn.fn:Fn:=⟨3,[.cell 6 (.d Za),.tmp 7],.seq (.reg false [bx 3 0 0,
    bx 5 1 2,
    nb 6 2 Za,
    ci 7 0]) (BOl)⟩
def BOi:Cd:=td [10,11,12,13,14,15]
def BOk:Cd:=td [16,17,18,19,20,21,22]
def BOj:Cd:=.ret
def BOh:Cd:=.seq (.seq (.reg false [ld 16 Za 3,
    mv 17 2,
    ld 18 Zb 8,
    ld 19 Zb 9,
    o_ 20 (.call (.f 71) [(.t 16),(.t 17),(.t 18),(.t 19)] [.d Za,.d (.int .i64)] [] false),
    xt 21 20 0,
    xt 22 20 1,
    sr Za 6 21,
    mv 7 22]) (BOk)) (BOj)
def BOg:Cd:=.seq (.seq (.reg false [ld 11 Za 3,
    mv 12 1,
    o_ 13 (.call (.f 70) [(.t 11),(.t 12)] [.d Zb,.d Zb] [] false),
    mv 10 13,
    xt 14 10 0,
    xt 15 10 1,
    nb 8 2 Zb,
    nb 9 3 Zb,
    sr Zb 8 14,
    sr Zb 9 15]) (BOi)) (BOh)
def Hg.fn:Fn:=⟨3,[.cell 6 (.d Za),.tmp 7],.seq (.reg false [bx 3 0 0,
    nb 6 1 Za,
    ci 7 0]) (BOg)⟩
def BOf:Cd:=td [8,9,10,11,12,13,14]
def BOe:Cd:=.ret
def BOd:Cd:=.seq (.seq (.reg false [ld 8 Za 3,
    mv 9 1,
    fa 10 Z6 2 5,
    ld 11 (.int .i64) 10,
    o_ 12 (.call (.f 44) [(.t 8),(.t 9),(.t 11)] [.d Za,.d (.int .i64)] [] false),
    xt 13 12 0,
    xt 14 12 1,
    sr Za 6 13,
    mv 7 14]) (BOf)) (BOe)
def Qm.fn:Fn:=⟨3,[.cell 6 (.d Za),.tmp 7],.seq (.reg false [bx 3 0 0,
    bx 5 1 2,
    nb 6 2 Za,
    ci 7 0]) (BOd)⟩
def BR4:Cd:=td [7]
def BR3:Cd:=.ret
def BR2:Cd:=.seq (.seq (.reg false [o_ 7 (.func 104 [(.t 5),(.t 3),(.t 4)]),
    mv 6 7]) (BR4)) (BR3)
def V1.fn:Fn:=⟨3,[.tmp 6],.seq (.reg false [bx 3 0 0,
    bx 4 1 1,
    bx 5 2 2,
    o_ 6 (.move .nf)]) (BR2)⟩
def BSa:Cd:=td [5,6,7,8,9,10,11,12,13]
def BSc:Cd:=.ret
def BSb:Cd:=.seq (.reg false [ci 3 3]) (BSc)
def BSf:Cd:=td [15,16,17]
def BE9:Cd:=.ret
def BSg:Cd:=.seq (.reg false [ci 3 12]) (BE9)
def BFc:Cd:=td [19,20,21,22,23,24,25,26,27,28,29]
def BFe:Cd:=.ret
def BFd:Cd:=.seq (.reg false [ci 3 5]) (BFe)
def BFf:Cd:=.skip
def BFb:Cd:=.cond (.t 18) (.seq (td [18]) (BFd)) (.seq (td [18]) (BFf))
def BFa:Cd:=.seq (.seq (.reg true [fa 19 Za 1 1,
    o_ 20 (.load (.d (.sl (.int .i64))) (.t 19)),
    ld 21 (.int .i64) 0,
    ix 22 (.sl (.int .i64)) 20 21,
    ld 23 (.int .i64) 22,
    fa 24 Za 1 1,
    o_ 25 (.load (.d (.sl (.int .i64))) (.t 24)),
    ld 26 (.int .i64) 2,
    ix 27 (.sl (.int .i64)) 25 26,
    ld 28 (.int .i64) 27,
    bi 29 .neq 23 28,
    mv 18 29]) (BFc)) (BFb)
def BSe:Cd:=.cond (.t 14) (.seq (td [14]) (BSg)) (.seq (td [14]) (BFa))
def BSd:Cd:=.seq (.seq (.reg false [ld 15 (.int .i64) 0,
    ld 16 (.int .i64) 2,
    bi 17 .eql 15 16,
    mv 14 17]) (BSf)) (BSe)
def BR9:Cd:=.cond (.t 4) (.seq (td [4]) (BSb)) (.seq (td [4]) (BSd))
def BFg:Cd:=.ret
def BR8:Cd:=.seq (.reg false [ci 3 0]) (BFg)
def BR7:Cd:=.seq (.block 0 (.seq (.seq (.reg false [ld 5 (.int .i64) 0,
    bc 6 .lss 5 0,
    mv 7 6,
    og 8 (.load (.d (.int .i64)) (.t 0)) 7 false,
    og 9 (.fieldAddr (.d Za) 1 (.t 1)) 7 false,
    og 10 (.load (.d (.sl (.int .i64))) (.t 9)) 7 false,
    og 11 (.len (.t 10)) 7 false,
    og 12 (.bin .geq (.t 8) (.t 11)) 7 false,
    o_ 13 (.pick (.t 7) (.c .bool true) (.t 12)),
    mv 4 13]) (BSa)) (BR9))) (BR8)
def Jp.fn:Fn:=⟨3,[.tmp 3],.seq (.reg false [ci 3 0]) (BR7)⟩
def ATp:Cd:=td [9,10,11,12,13,14,15,16]
def ATr:Cd:=td [17,18,19,20]
def ATq:Cd:=.ret
def ATo:Cd:=.seq (.seq (.reg false [mv 17 8,
    o_ 18 (.max [(.t 17),(.c (.int .i64) (0:Int))]),
    mv 19 8,
    bc 20 .geq 19 0,
    mv 6 18,
    mv 7 20]) (ATr)) (ATq)
def ATn:Cd:=.seq (.seq (.reg false [fa 9 Za 0 3,
    fa 10 Z0 0 9,
    o_ 11 (.load (.d (.sl (.arr 4 (.int .i64)))) (.t 10)),
    mv 12 1,
    mv 13 2,
    o_ 14 (.index (.sl (.arr 4 (.int .i64))) (.t 11) (.t 12)),
    o_ 15 (.index (.arr 4 (.int .i64)) (.t 14) (.t 13)),
    ld 16 (.int .i64) 15,
    mv 8 16]) (ATp)) (ATo)
def Vc.fn:Fn:=⟨3,[.tmp 6,.tmp 7],.seq (.reg false [bx 3 0 0,
    ci 6 0,
    o_ 7 (.move (.c .bool false))]) (ATn)⟩
def ATg:Cd:=td [12,13]
def ATi:Cd:=td [14]
def ATl:Cd:=td [16,17]
def ATk:Cd:=.ret
def ATj:Cd:=.seq (.seq (.reg false [ld 16 Za 2,
    mv 17 8,
    sr Za 5 16,
    ci 6 0,
    mv 7 17]) (ATl)) (ATk)
def ATm:Cd:=.skip
def ATh:Cd:=.cond (.t 15) (.seq (td [15]) (ATj)) (.seq (td [15]) (ATm))
def ATf:Cd:=.seq (.seq (.reg false [mv 14 8,
    bc 15 .neq 14 0]) (ATi)) (ATh)
def APr:Cd:=td [18,19,20,21,22,23,24,25,26,27,28]
def APu:Cd:=td [29]
def APx:Cd:=td [31]
def APw:Cd:=.ret
def APv:Cd:=.seq (.seq (.reg false [ld 31 Za 2,
    sr Za 5 31,
    ci 6 0,
    ci 7 4]) (APx)) (APw)
def APy:Cd:=.skip
def APt:Cd:=.cond (.t 30) (.seq (td [30]) (APv)) (.seq (td [30]) (APy))
def AP0:Cd:=td [32,33]
def AP2:Cd:=td [34,35,36,37,38]
def AP4:Cd:=td [39,40]
def AP3:Cd:=.ret
def AP1:Cd:=.seq (.seq (.reg false [ld 39 Za 11,
    mv 40 9,
    sr Za 5 39,
    mv 6 40,
    ci 7 0]) (AP4)) (AP3)
def APz:Cd:=.seq (.seq (.reg false [fa 34 Za 1 11,
    o_ 35 (.load (.d (.sl (.int .i64))) (.t 34)),
    mv 36 0,
    mv 37 9,
    ix 38 (.sl (.int .i64)) 35 36,
    sr (.int .i64) 38 37]) (AP2)) (AP1)
def APs:Cd:=.seq (.seq (.reg false [ld 32 Za 2,
    o_ 33 (.call (.f 30) [(.t 32)] [.d Za] [((0,[1]),2)] false),
    nb 11 1 Za,
    sr Za 11 33]) (AP0)) (APz)
def APq:Cd:=.seq (.seq (.seq (.reg false [mv 29 10,
    nt 30 29]) (APu)) (APt)) (APs)
def ATe:Cd:=.seq (.seq (.reg true [ld 19 Za 2,
    fa 20 Za 1 2,
    o_ 21 (.load (.d (.sl (.int .i64))) (.t 20)),
    mv 22 0,
    ix 23 (.sl (.int .i64)) 21 22,
    ld 24 (.int .i64) 23,
    ld 25 (.int .i64) 3,
    o_ 26 (.call (.f 105) [(.t 19),(.t 24),(.t 25)] [.d (.int .i64),.d .bool] [] false),
    mv 18 26,
    xt 27 18 0,
    xt 28 18 1,
    mv 9 27,
    mv 10 28]) (APr)) (APq)
def ATd:Cd:=.seq (.seq (.seq (.reg false [o_ 12 (.load (.v false 1) (.t 1)),
    o_ 13 (.call (.t 12) [] [.d (.int .i64)] [] false),
    mv 8 13]) (ATg)) (ATf)) (ATe)
def Q0.fn:Fn:=⟨4,[.cell 5 (.d Za),.tmp 6,.tmp 7],.seq (.reg false [nb 5 0 Za,
    ci 6 0,
    ci 7 0]) (ATd)⟩
def BN9:Cd:=.reg true [od 11 (.load (.d Za) (.t 4)) [0] [],
    mv 12 3,
    o_ 13 (.func 68 [(.t 6),(.t 4),(.t 5)]),
    od 14 (.call (.f 66) [(.t 11),(.t 12),(.t 13)] [.clo 104 [.refv (.clo 68 [.ref (.int .i64),.ref Za,.ref (.int .i64)]),.ref Za,.ref (.int .i64)]] [] false) [0,1,2] [],
    od 15 (.load (.d (.int .i64)) (.t 6)) [2] [],
    o_ 16 (.call (.t 14) [(.t 15)] [.d Za,.d (.int .i64),.d (.int .i64)] [] false),
    xt 17 16 0,
    xt 18 16 1,
    xt 19 16 2,
    ⟨none,.store (.d Za) (.t 8) (.t 17),none,[],[3]⟩,
    mv 9 18,
    mv 10 19]
def BN8:Cd:=td [11,12,13,14,15,16,17,18,19]
def BN7:Cd:=.ret
def BN6:Cd:=.seq (.seq (.seq (.frz [0,1,2]) (BN9)) (BN8)) (BN7)
def Kg.fn:Fn:=⟨4,[.cell 8 (.d Za),.tmp 9,.tmp 10],.seq (.reg false [bx 4 0 0,
    bx 5 1 1,
    bx 6 2 2,
    nb 8 3 Za,
    ci 9 0,
    ci 10 0]) (BN6)⟩
def BN5:Cd:=td [9,10,11,12,13,14,15,16,17,18]
def BN4:Cd:=.ret
def BN3:Cd:=.seq (.seq (.reg false [ld 9 Za 3,
    mv 10 1,
    fa 11 Z6 4 5,
    ld 12 (.int .i64) 11,
    fa 13 Z6 1 5,
    ld 14 (.int .i64) 13,
    o_ 15 (.call (.f 41) [(.t 9),(.t 10),(.t 12),(.t 14)] [.d Za,.d (.int .i64),.d (.int .i64)] [] false),
    xt 16 15 0,
    xt 17 15 1,
    xt 18 15 2,
    sr Za 6 16,
    mv 7 17,
    mv 8 18]) (BN5)) (BN4)
def Ql.fn:Fn:=⟨3,[.cell 6 (.d Za),.tmp 7,.tmp 8],.seq (.reg false [bx 3 0 0,
    bx 5 1 2,
    nb 6 2 Za,
    ci 7 0,
    ci 8 0]) (BN3)⟩
def BRp:Cd:=td [12,13,14,15,16,17,18,19,20]
def BRr:Cd:=td [21,22,23,24,25,26]
def BRq:Cd:=.ret
def BRo:Cd:=.seq (.seq (.reg true [od 21 (.load (.d Za) (.t 9)) [4] [],
    od 22 (.fieldAddr (.d Z6) 0 (.t 6)) [1] [],
    od 23 (.load (.d (.int .i64)) (.t 22)) [1] [],
    mv 24 10,
    mv 25 11,
    o_ 26 (.call (.f 65) [(.t 23),(.t 24),(.t 25)] [.d Xg] [] false),
    ⟨none,.store (.d Za) (.t 7) (.t 21),none,[],[2]⟩,
    ⟨none,.store (.d Xg) (.t 8) (.t 26),none,[],[3]⟩]) (BRr)) (BRq)
def BRn:Cd:=.seq (.seq (.reg false [o_ 13 (.load (.v false 1) (.t 3)),
    ld 14 Za 4,
    mv 15 1,
    ld 16 Z6 6,
    o_ 17 (.call (.t 13) [(.t 14),(.t 15),(.t 16)] [.d Za,.d (.int .i64),.d (.int .i64)] [] false),
    mv 12 17,
    xt 18 12 0,
    xt 19 12 1,
    xt 20 12 2,
    nb 9 4 Za,
    sr Za 9 18,
    mv 10 19,
    mv 11 20]) (BRp)) (BRo)
def Qr.fn:Fn:=⟨4,[.cell 7 (.d Za),.cell 8 (.d Xg)],.seq (.reg false [bx 4 0 0,
    bx 6 1 2,
    nb 7 2 Za,
    nb 8 3 Xg]) (BRn)⟩
def BR6:Cd:=.ret
def BR5:Cd:=.seq (.reg false [ci 0 0]) (BR6)
def J8.fn:Fn:=⟨0,[.tmp 0],.seq (.reg false [ci 0 0]) (BR5)⟩
def BM5:Cd:=td [9,10,11,12,13,14,15,16]
def BM4:Cd:=.ret
def BM3:Cd:=.seq (.seq (.reg false [ld 9 Za 3,
    mv 10 2,
    o_ 11 (.call (.f 66) [(.t 9),(.t 10),(.f 67)] [.clo 104 [.refv (.clo 67 []),.ref Za,.ref (.int .i64)]] [] false),
    mv 12 1,
    o_ 13 (.call (.t 11) [(.t 12)] [.d Za,.d (.int .i64),.d (.int .i64)] [] false),
    xt 14 13 0,
    xt 15 13 1,
    xt 16 13 2,
    sr Za 6 14,
    mv 7 15,
    mv 8 16]) (BM5)) (BM4)
def Kf.fn:Fn:=⟨3,[.cell 6 (.d Za),.tmp 7,.tmp 8],.seq (.reg false [bx 3 0 0,
    nb 6 1 Za,
    ci 7 0,
    ci 8 0]) (BM3)⟩
def BM2:Cd:=td [9,10,11,12,13,14,15,16]
def BM1:Cd:=.ret
def BM0:Cd:=.seq (.seq (.reg false [ld 9 Za 3,
    mv 10 1,
    fa 11 Z6 1 5,
    ld 12 (.int .i64) 11,
    o_ 13 (.call (.f 39) [(.t 9),(.t 10),(.t 12)] [.d Za,.d (.int .i64),.d (.int .i64)] [] false),
    xt 14 13 0,
    xt 15 13 1,
    xt 16 13 2,
    sr Za 6 14,
    mv 7 15,
    mv 8 16]) (BM2)) (BM1)
def Qk.fn:Fn:=⟨3,[.cell 6 (.d Za),.tmp 7,.tmp 8],.seq (.reg false [bx 3 0 0,
    bx 5 1 2,
    nb 6 2 Za,
    ci 7 0,
    ci 8 0]) (BM0)⟩
def BY6:Cd:=td [8,9]
def BY9:Cd:=td [11,12]
def BY8:Cd:=.ret
def BY7:Cd:=.seq (.seq (.reg false [ld 11 Za 3,
    o_ 12 (.build Xg [(0,(.c (.int .i64) (2:Int)))] []),
    sr Za 6 11,
    sr Xg 7 12]) (BY9)) (BY8)
def BZa:Cd:=.skip
def BY5:Cd:=.cond (.t 10) (.seq (td [10]) (BY7)) (.seq (td [10]) (BZa))
def BZc:Cd:=td [13,14,15,16,17,18,19,20,21,22]
def BZb:Cd:=.ret
def BY4:Cd:=.seq (.seq (.reg true [o_ 13 (.call (.f 27) [] [.fmap [1,2,3,4,5,6,7,8,9,10] [.clo 64 [.refv (.clo 38 [])],.clo 64 [.refv (.clo 40 [])],.clo 69 [.refv (.clo 43 [])],.clo 69 [.refv (.clo 45 [])],.clo 69 [.refv (.clo 47 [])],.clo 69 [.refv (.clo 49 [])],.clo 69 [.refv (.clo 51 [])],.clo 69 [.refv (.clo 53 [])],.clo 100 [.refv (.clo 55 [])],.clo 100 [.refv (.clo 56 [])]]] [] false),
    od 14 (.fieldAddr (.d Z6) 0 (.t 5)) [1] [],
    od 15 (.load (.d (.int .i64)) (.t 14)) [1] [],
    o_ 16 (.lookv (.t 13) (.t 15) false),
    od 17 (.load (.d Za) (.t 3)) [0] [],
    mv 18 1,
    od 19 (.load (.d Z6) (.t 5)) [1] [],
    o_ 20 (.call (.t 16) [(.t 17),(.t 18),(.t 19)] [.d Za,.d Xg] [] false),
    xt 21 20 0,
    xt 22 20 1,
    ⟨none,.store (.d Za) (.t 6) (.t 21),none,[],[2]⟩,
    ⟨none,.store (.d Xg) (.t 7) (.t 22),none,[],[3]⟩]) (BZc)) (BZb)
def BY3:Cd:=.seq (.seq (.seq (.reg false [ld 8 Z6 5,
    o_ 9 (.call (.f 26) [(.t 8)] [.d .bool] [] false),
    nt 10 9]) (BY6)) (BY5)) (BY4)
def Js.fn:Fn:=⟨3,[.cell 6 (.d Za),.cell 7 (.d Xg)],.seq (.reg false [bx 3 0 0,
    bx 5 1 2,
    nb 6 2 Za,
    nb 7 3 Xg]) (BY3)⟩
def BXv:Cd:=td [15,16,17,18,19,20,21,22,23,24,25,26,27,28,29,30,31,32,33,34,35]
def BXy:Cd:=td [37]
def BXx:Cd:=.ret
def BXw:Cd:=.seq (.seq (.reg false [o_ 37 (.call (.f 4) [] [.d .bool] [] false),
    mv 8 37]) (BXy)) (BXx)
def BXz:Cd:=.skip
def BXu:Cd:=.cond (.t 36) (.seq (td [36]) (BXw)) (.seq (td [36]) (BXz))
def BX1:Cd:=td [38,39,40,41,42,43,44,45,46,47,48,49]
def BM7:Cd:=td [50,51,52]
def BNa:Cd:=td [53,54,55,56,57,58,59,60,61,62,63,64,65,66,67,68,69,70,71,72,73,74]
def BNc:Cd:=.ret
def BNb:Cd:=.seq (.reg false [o_ 8 (.move (.c .bool false))]) (BNc)
def BNd:Cd:=.skip
def BM9:Cd:=.cond (.t 75) (.seq (td [75]) (BNb)) (.seq (td [75]) (BNd))
def BNf:Cd:=td [76,77,78,79,80,81]
def BNh:Cd:=td [82,83,84,85,86]
def BNk:Cd:=td [87,88,89,90,91,92,93,94,95,96,97,98,99,100,101,102,103]
def BNm:Cd:=.ret
def BNl:Cd:=.seq (.reg false [o_ 8 (.move (.c .bool false))]) (BNm)
def BNn:Cd:=.skip
def BNj:Cd:=.cond (.t 104) (.seq (td [104]) (BNl)) (.seq (td [104]) (BNn))
def BNs:Cd:=td [105,106,107]
def BNt:Cd:=.skip
def BN1:Cd:=.exit 0
def BNr:Cd:=.cond (.t 108) (.seq (td [108]) (BNt)) (.seq (td [108]) (BN1))
def BNw:Cd:=td [111,112,113,114,115,116,117]
def BNy:Cd:=.ret
def BNx:Cd:=.seq (.reg false [o_ 8 (.move (.c .bool false))]) (BNy)
def BNz:Cd:=.skip
def BNv:Cd:=.cond (.t 118) (.seq (td [118]) (BNx)) (.seq (td [118]) (BNz))
def BN0:Cd:=td [109,110]
def BNu:Cd:=.seq (.reg false [mv 109 14,
    bc 110 .add 109 1,
    mv 14 110]) (BN0)
def BNq:Cd:=.seq (.block 1 (.seq (.seq (.reg true [od 111 (.load (.d Za) (.t 4)) [0] [],
    mv 112 11,
    mv 113 14,
    ix 114 (.sl Zi) 112 113,
    ld 115 Zi 114,
    o_ 116 (.call (.f 14) [(.t 111),(.t 115)] [.d Za] [] false),
    od 117 (.load (.d Za) (.t 4)) [0] [],
    o_ 118 (.call (.f 11) [(.t 116),(.t 117)] [.d .bool] [] false)]) (BNw)) (BNv))) (BNu)
def BNp:Cd:=.tidy [] [] [] (some 5)
def ARw:Cd:=.seq (.seq (.seq (.seq (.reg false [mv 105 14,
    mv 106 11,
    le 107 106,
    bi 108 .lss 105 107]) (BNs)) (BNr)) (BNq)) (BNp)
def BNo:Cd:=.block 0 (.loop (ARw))
def BN2:Cd:=.ret
def ARv:Cd:=.seq (.reg false [o_ 8 (.move (.c .bool true))]) (BN2)
def BNi:Cd:=.seq (.seq (.reg false [ci 14 0]) (BNo)) (ARv)
def BNg:Cd:=.seq (.seq (.seq (.reg true [od 87 (.load (.d Za) (.t 13)) [4] [],
    mv 88 11,
    mv 89 12,
    o_ 90 (.slx Zi (.t 88) (some (.t 89)) none),
    o_ 91 (.call (.f 12) [(.t 87),(.t 90)] [.d Za] [] false),
    od 92 (.load (.d Za) (.t 9)) [2] [],
    o_ 93 (.call (.f 11) [(.t 91),(.t 92)] [.d .bool] [] false),
    nt 94 93,
    mv 95 94,
    ogd 96 (.load (.d Za) (.t 13)) 95 false [4],
    ogd 97 (.load (.d Za) (.t 9)) 95 false [2],
    og 98 (.call (.f 10) [(.t 96),(.t 97)] [.d (.sl Zi)] [] false) 95 false,
    og 99 (.move (.t 11)) 95 false,
    og 100 (.move (.t 12)) 95 false,
    og 101 (.slx Zi (.t 99) (some (.t 100)) none) 95 false,
    og 102 (.call (.f 13) [(.t 98),(.t 101)] [.d .bool] [] false) 95 false,
    og 103 (.not (.t 102)) 95 false,
    o_ 104 (.pick (.t 95) (.c .bool true) (.t 103))]) (BNk)) (BNj)) (BNi)
def BNe:Cd:=.seq (.seq (.reg true [od 82 (.load (.d Za) (.t 4)) [0] [],
    mv 83 11,
    mv 84 12,
    o_ 85 (.slx Zi (.t 83) none (some (.t 84))),
    o_ 86 (.call (.f 12) [(.t 82),(.t 85)] [.d Za] [] false),
    od 13 (.newbox 4 Za []) [] [4],
    ⟨none,.store (.d Za) (.t 13) (.t 86),none,[],[4]⟩]) (BNh)) (BNg)
def BM8:Cd:=.seq (.seq (.reg false [mv 76 3,
    o_ 77 (.conv .i64 (.t 76)),
    mv 78 11,
    le 79 78,
    bc 80 .add 79 1,
    bi 81 .rem 77 80,
    mv 12 81]) (BNf)) (BNe)
def BM6:Cd:=.seq (.seq (.seq (.reg true [od 53 (.load (.d Za) (.t 4)) [0] [],
    mv 54 11,
    o_ 55 (.call (.f 12) [(.t 53),(.t 54)] [.d Za] [] false),
    od 56 (.load (.d Za) (.t 9)) [2] [],
    o_ 57 (.call (.f 11) [(.t 55),(.t 56)] [.d .bool] [] false),
    nt 58 57,
    mv 59 58,
    ogd 60 (.load (.d Za) (.t 4)) 59 false [0],
    ogd 61 (.load (.d Za) (.t 4)) 59 false [0],
    og 62 (.call (.f 10) [(.t 60),(.t 61)] [.d (.sl Zi)] [] false) 59 false,
    og 63 (.len (.t 62)) 59 false,
    og 64 (.bin .neq (.t 63) (.c (.int .i64) (0:Int))) 59 false,
    o_ 65 (.pick (.t 59) (.c .bool true) (.t 64)),
    mv 66 65,
    ogd 67 (.fieldAddr (.d Xg) 0 (.t 10)) 66 false [3],
    ogd 68 (.load (.d (.int .i64)) (.t 67)) 66 false [3],
    og 69 (.bin .neq (.t 68) (.c (.int .i64) (0:Int))) 66 false,
    og 70 (.move (.t 69)) 66 false,
    og 71 (.move (.t 11)) 70 true,
    og 72 (.len (.t 71)) 70 true,
    og 73 (.bin .neq (.t 72) (.c (.int .i64) (0:Int))) 70 true,
    og 74 (.pick (.t 70) (.t 73) (.c .bool false)) 66 false,
    o_ 75 (.pick (.t 66) (.c .bool true) (.t 74))]) (BNa)) (BM9)) (BM8)
def BX0:Cd:=.seq (.seq (.reg false [ld 50 Za 4,
    ld 51 Za 9,
    o_ 52 (.call (.f 10) [(.t 50),(.t 51)] [.d (.sl Zi)] [] false),
    mv 11 52]) (BM7)) (BM6)
def BXt:Cd:=.seq (.seq (.reg true [od 39 (.load (.d Za) (.t 4)) [0] [],
    mv 40 1,
    o_ 41 (.conv .i64 (.t 40)),
    od 42 (.fieldAddr (.d Za) 1 (.t 4)) [0] [],
    od 43 (.load (.d (.sl (.int .i64))) (.t 42)) [0] [],
    le 44 43,
    bi 45 .rem 41 44,
    od 46 (.load (.d Z6) (.t 6)) [1] [],
    o_ 47 (.call (.f 9) [(.t 39),(.t 45),(.t 46)] [.d Za,.d Xg] [] false),
    mv 38 47,
    xt 48 38 0,
    xt 49 38 1,
    od 9 (.newbox 2 Za []) [] [2],
    od 10 (.newbox 3 Xg []) [] [3],
    ⟨none,.store (.d Za) (.t 9) (.t 48),none,[],[2]⟩,
    ⟨none,.store (.d Xg) (.t 10) (.t 49),none,[],[3]⟩]) (BX1)) (BX0)
def BXs:Cd:=.seq (.seq (.seq (.reg false [o_ 15 (.call (.f 4) [] [.d .bool] [] false),
    nt 16 15,
    mv 17 16,
    og 18 (.load (.d Za) (.t 4)) 17 false,
    og 19 (.call (.f 5) [(.t 18)] [.d .bool] [] false) 17 false,
    og 20 (.not (.t 19)) 17 false,
    o_ 21 (.pick (.t 17) (.c .bool true) (.t 20)),
    mv 22 21,
    og 23 (.load (.d Za) (.t 4)) 22 false,
    og 24 (.call (.f 6) [(.t 23)] [.d .bool] [] false) 22 false,
    og 25 (.not (.t 24)) 22 false,
    o_ 26 (.pick (.t 22) (.c .bool true) (.t 25)),
    mv 27 26,
    og 28 (.load (.d Z6) (.t 6)) 27 false,
    og 29 (.call (.f 7) [(.t 28)] [.d .bool] [] false) 27 false,
    og 30 (.not (.t 29)) 27 false,
    o_ 31 (.pick (.t 27) (.c .bool true) (.t 30)),
    mv 32 31,
    og 33 (.load (.d Z6) (.t 6)) 32 false,
    og 34 (.call (.f 8) [(.t 33)] [.d .bool] [] false) 32 false,
    og 35 (.not (.t 34)) 32 false,
    o_ 36 (.pick (.t 32) (.c .bool true) (.t 35))]) (BXv)) (BXu)) (BXt)
def Zt.fn:Fn:=⟨4,[.tmp 8],.seq (.reg false [bx 4 0 0,
    bx 6 1 2,
    o_ 8 (.move (.c .bool false))]) (BXs)⟩
def BMz:Cd:=td [3]
def BMy:Cd:=.ret
def BMx:Cd:=.seq (.seq (.reg false [o_ 3 (.func 64 [(.t 1)]),
    mv 2 3]) (BMz)) (BMy)
def P3.fn:Fn:=⟨1,[.tmp 2],.seq (.reg false [bx 1 0 0,
    o_ 2 (.move .nf)]) (BMx)⟩
def BOc:Cd:=td [3]
def BOb:Cd:=.ret
def BOa:Cd:=.seq (.seq (.reg false [o_ 3 (.func 69 [(.t 1)]),
    mv 2 3]) (BOc)) (BOb)
def P4.fn:Fn:=⟨1,[.tmp 2],.seq (.reg false [bx 1 0 0,
    o_ 2 (.move .nf)]) (BOa)⟩
def BQn:Cd:=td [3]
def BQm:Cd:=.ret
def BQl:Cd:=.seq (.seq (.reg false [o_ 3 (.func 100 [(.t 1)]),
    mv 2 3]) (BQn)) (BQm)
def T9.fn:Fn:=⟨1,[.tmp 2],.seq (.reg false [bx 1 0 0,
    o_ 2 (.move .nf)]) (BQl)⟩
def prog:FuncId→Option Fn
  | 3=>some Zt.fn
  | 4=>some Xy.fn
  | 5=>some X3.fn
  | 6=>some Zg.fn
  | 7=>some Ye.fn
  | 8=>some X6.fn
  | 9=>some Js.fn
  | 10=>some Z3.fn
  | 11=>some Zn.fn
  | 13=>some Z1.fn
  | 14=>some Gn.fn
  | 15=>some J1.fn
  | 16=>some Qc.fn
  | 17=>some Ha.fn
  | 18=>some Zc.fn
  | 19=>some Z9.fn
  | 20=>some Yd.fn
  | 21=>some Z2.fn
  | 22=>some Z4.fn
  | 23=>some Yf.fn
  | 24=>some Zf.fn
  | 25=>some Zh.fn
  | 26=>some K6.fn
  | 28=>some Zx.fn
  | 29=>some Zy.fn
  | 30=>some Jh.fn
  | 31=>some He.fn
  | 32=>some Hf.fn
  | 33=>some Qg.fn
  | 34=>some Gm.fn
  | 35=>some Ki.fn
  | 36=>some H4.fn
  | 37=>some P3.fn
  | 38=>some Qk.fn
  | 39=>some Kf.fn
  | 40=>some Ql.fn
  | 41=>some Kg.fn
  | 42=>some P4.fn
  | 43=>some Qm.fn
  | 44=>some Hg.fn
  | 45=>some Qn.fn
  | 46=>some Kd.fn
  | 47=>some Qo.fn
  | 48=>some V9.fn
  | 49=>some Qp.fn
  | 50=>some Vj.fn
  | 51=>some Qq.fn
  | 52=>some Vk.fn
  | 53=>some Z7.fn
  | 54=>some T9.fn
  | 55=>some Vl.fn
  | 56=>some Ke.fn
  | 59=>some Kx.fn
  | 60=>some Ut.fn
  | 61=>some Zo.fn
  | 62=>some Xb.fn
  | 63=>some Ka.fn
  | 64=>some Qr.fn
  | 65=>some Yh.fn
  | 66=>some V1.fn
  | 67=>some J8.fn
  | 68=>some Jp.fn
  | 69=>some Qs.fn
  | 70=>some Q6.fn
  | 71=>some Vt.fn
  | 72=>some Y1.fn
  | 73=>some Yy.fn
  | 74=>some Q2.fn
  | 75=>some Jk.fn
  | 76=>some Jz.fn
  | 77=>some Jl.fn
  | 78=>some Jm.fn
  | 80=>some Jn.fn
  | 81=>some Jg.fn
  | 82=>some Xq.fn
  | 83=>some Jo.fn
  | 84=>some Q8.fn
  | 85=>some K8.fn
  | 86=>some Yk.fn
  | 87=>some Qt.fn
  | 88=>some Qu.fn
  | 89=>some Qv.fn
  | 90=>some Qw.fn
  | 91=>some Ky.fn
  | 92=>some Y9.fn
  | 93=>some Ys.fn
  | 95=>some Yw.fn
  | 96=>some Ym.fn
  | 97=>some Y5.fn
  | 98=>some Xt.fn
  | 99=>some Kb.fn
  | 100=>some Y4.fn
  | 101=>some Xd.fn
  | 102=>some Xw.fn
  | 103=>some Zk.fn
  | 104=>some Q0.fn
  | 105=>some Vc.fn
  | 106=>some Vv.fn
  | 107=>some Gb.fn
  | 109=>some Yv.fn
  | 111=>some H5.fn
  | _=>none
end Go.Proofs.YtjobjooccgledaaGreatDoor.Ghost
