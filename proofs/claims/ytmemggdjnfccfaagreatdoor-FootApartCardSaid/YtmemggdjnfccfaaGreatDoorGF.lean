/- The functions as ghost code. Conditions: none; no statement is proved here. -/
import Derived.Test.YtmemggdjnfccfaaGreatDoorA1
set_option linter.unusedVariables false
set_option linter.unusedSimpArgs false
set_option linter.unusedSectionVars false
set_option linter.unnecessarySimpa false
namespace Go.Proofs.YtmemggdjnfccfaaGreatDoor.Ghost
open Go
def o_ (d:Nat) (x:GOp):Ln:=⟨some d,x,none,[],[]⟩
def on_ (x:GOp):Ln:=⟨none,x,none,[],[]⟩
def og (d:Nat) (x:GOp) (g:Nat) (b:Bool):Ln:=⟨some d,x,some (g,b),[],[]⟩
def od (d:Nat) (x:GOp) (r w:List Nat):Ln:=⟨some d,x,none,r,w⟩
def ogd (d:Nat) (x:GOp) (g:Nat) (b:Bool) (r:List Nat):Ln:=⟨some d,x,some (g,b),r,[]⟩
def mv (d i:Nat):Ln:=⟨some d,.move (.t i),none,[],[]⟩
def ld (d:Nat) (t:Ty) (i:Nat):Ln:=⟨some d,.load (.d t) (.t i),none,[],[]⟩
def fa (d:Nat) (t:Ty) (j i:Nat):Ln:=⟨some d,.fieldAddr (.d t) j (.t i),none,[],[]⟩
def bi (d:Nat) (b:BinOp) (i j:Nat):Ln:=⟨some d,.bin b (.t i) (.t j),none,[],[]⟩
def bc (d:Nat) (b:BinOp) (i:Nat) (n:Int):Ln:=⟨some d,.bin b (.t i) (.c (.int .i64) n),none,[],[]⟩
def ix (d:Nat) (t:IT) (i j:Nat):Ln:=⟨some d,.index t (.t i) (.t j),none,[],[]⟩
def le (d i:Nat):Ln:=⟨some d,.len (.t i),none,[],[]⟩
def xt (d i j:Nat):Ln:=⟨some d,.extract (.t i) j,none,[],[]⟩
def nt (d i:Nat):Ln:=⟨some d,.not (.t i),none,[],[]⟩
def ci (d:Nat) (n:Int):Ln:=⟨some d,.move (.c (.int .i64) n),none,[],[]⟩
def sr (t:Ty) (i j:Nat):Ln:=⟨none,.store (.d t) (.t i) (.t j),none,[],[]⟩
def nb (d k:Nat) (t:Ty):Ln:=⟨some d,.newbox k t [],none,[],[]⟩
def bx (d k i:Nat):Ln:=⟨some d,.box k (.t i),none,[],[]⟩
def td (l:List Nat):Cd:=.tidy l [] [] none
abbrev Z3:Ty:=.st [(.sl (.arr 4 (.int .i64))),(.sl (.int .i64)),(.sl (.int .i64)),(.sl (.int .i64)),(.sl .bool),(.int .i64),(.int .i64),(.int .i64)]
abbrev Za:Ty:=.st [(.int .i64),(.int .i64)]
abbrev Zb:Ty:=.st [Z3,(.sl (.int .i64)),(.sl (.int .i64)),(.sl Za)]
abbrev Zz:Ty:=.st [(.int .i64),(.int .i64),(.int .i64),(.int .i64),(.int .i64),(.sl (.int .i64)),(.int .i64),(.sl (.int .i64)),(.int .i64)]
abbrev Ym:Ty:=.st [(.int .i64),Za]
abbrev Z9:Ty:=.st [(.int .i64),(.int .i64),(.int .i64),(.sl (.int .i64)),(.sl Ym),(.int .i64)]
abbrev U4:Ty:=.st [(.int .i64),(.int .i64),(.int .i64),(.int .i64),(.int .i64),(.int .i64),(.int .i64)]
def BOg:Cd:=td [5,6]
def BOi:Cd:=td [7,8,9,10,11,12]
def BOk:Cd:=td [13,14,15,16,17,18]
def BAs:Cd:=td [19,20,21,22]
def BAt:Cd:=.skip
def BAx:Cd:=.exit 0
def BAr:Cd:=.cond (.t 23) (.seq (td [23]) (BAt)) (.seq (td [23]) (BAx))
def BAv:Cd:=td [26,27,28,29,30,31,32,33,34,35,36]
def BAw:Cd:=td [24,25]
def BAu:Cd:=.seq (.reg false [mv 24 4,
    bc 25 .add 24 1,
    mv 4 25]) (BAw)
def BAq:Cd:=.seq (.block 1 (.seq (.reg true [od 26 (.fieldAddr (.d Zb) 3 (.t 3)) [2] [],
    od 27 (.load (.d (.sl Za)) (.t 26)) [2] [],
    od 28 (.fieldAddr (.d Z3) 3 (.t 1)) [0] [],
    od 29 (.load (.d (.sl (.int .i64))) (.t 28)) [0] [],
    mv 30 4,
    ix 31 (.sl (.int .i64)) 29 30,
    ld 32 (.int .i64) 31,
    o_ 33 (.build Za [(1,(.t 32))] []),
    od 34 (.slice 5 Za [(.t 33)]) [] [5],
    od 35 (.append 6 Za (.t 27) (.t 34)) [5] [6,9],
    od 36 (.fieldAddr (.d Zb) 3 (.t 3)) [2] [],
    ⟨none,.store (.d (.sl Za)) (.t 36) (.t 35),none,[],[2]⟩]) (BAv))) (BAu)
def BAp:Cd:=.tidy [] [(6,9)] [5] (some 10)
def BOn:Cd:=.seq (.seq (.seq (.seq (.reg false [mv 19 4,
    fa 20 Z3 3 1,
    o_ 21 (.load (.d (.sl (.int .i64))) (.t 20)),
    le 22 21,
    bi 23 .lss 19 22]) (BAs)) (BAr)) (BAq)) (BAp)
def BOm:Cd:=.block 0 (.loop (BOn))
def BAz:Cd:=td [37]
def BAy:Cd:=.ret
def BOl:Cd:=.seq (.seq (.reg false [ld 37 Zb 3,
    sr Zb 2 37]) (BAz)) (BAy)
def BOj:Cd:=.seq (.seq (.reg false [ci 4 0]) (BOm)) (BOl)
def BOh:Cd:=.seq (.seq (.reg false [fa 13 Zb 2 3,
    o_ 14 (.load (.d (.sl (.int .i64))) (.t 13)),
    fa 15 Z3 2 1,
    o_ 16 (.load (.d (.sl (.int .i64))) (.t 15)),
    o_ 17 (.append 4 (.int .i64) (.t 14) (.t 16)),
    fa 18 Zb 2 3,
    on_ (.store (.d (.sl (.int .i64))) (.t 18) (.t 17))]) (BOk)) (BOj)
def BOf:Cd:=.seq (.seq (.reg false [fa 7 Zb 1 3,
    o_ 8 (.load (.d (.sl (.int .i64))) (.t 7)),
    fa 9 Z3 1 1,
    o_ 10 (.load (.d (.sl (.int .i64))) (.t 9)),
    o_ 11 (.append 3 (.int .i64) (.t 8) (.t 10)),
    fa 12 Zb 1 3,
    on_ (.store (.d (.sl (.int .i64))) (.t 12) (.t 11))]) (BOi)) (BOh)
def BOe:Cd:=.seq (.seq (.reg false [ld 5 Z3 1,
    o_ 6 (.build Zb [(0,(.t 5))] [([1],7),([2],8),([3],9)]),
    nb 3 2 Zb,
    sr Zb 3 6]) (BOg)) (BOf)
def Vg.fn:Fn:=⟨1,[.cell 2 (.d Zb)],.seq (.reg false [bx 1 0 0,
    nb 2 1 Zb]) (BOe)⟩
def BOq:Cd:=td [3,4,5,6,7]
def BOs:Cd:=td [8,9,10,11,12]
def BOu:Cd:=td [13,14,15,16,17]
def BOw:Cd:=td [18]
def BOv:Cd:=.ret
def BOt:Cd:=.seq (.seq (.reg false [ld 18 Zb 1,
    sr Zb 2 18]) (BOw)) (BOv)
def BOr:Cd:=.seq (.seq (.reg false [o_ 13 (.slice 6 Za []),
    fa 14 Zb 3 1,
    ld 15 (.sl Za) 14,
    o_ 16 (.append 7 Za (.t 13) (.t 15)),
    fa 17 Zb 3 1,
    sr (.sl Za) 17 16]) (BOu)) (BOt)
def BOp:Cd:=.seq (.seq (.reg false [o_ 8 (.slice 4 (.int .i64) []),
    fa 9 Zb 2 1,
    o_ 10 (.load (.d (.sl (.int .i64))) (.t 9)),
    o_ 11 (.append 5 (.int .i64) (.t 8) (.t 10)),
    fa 12 Zb 2 1,
    on_ (.store (.d (.sl (.int .i64))) (.t 12) (.t 11))]) (BOs)) (BOr)
def BOo:Cd:=.seq (.seq (.reg false [o_ 3 (.slice 2 (.int .i64) []),
    fa 4 Zb 1 1,
    o_ 5 (.load (.d (.sl (.int .i64))) (.t 4)),
    o_ 6 (.append 3 (.int .i64) (.t 3) (.t 5)),
    fa 7 Zb 1 1,
    on_ (.store (.d (.sl (.int .i64))) (.t 7) (.t 6))]) (BOq)) (BOp)
def Qr.fn:Fn:=⟨1,[.cell 2 (.d Zb)],.seq (.reg false [bx 1 0 0,
    nb 2 1 Zb]) (BOo)⟩
def BPw:Cd:=td [9,10,11,12,13,14,15,16]
def BPy:Cd:=td [17,18,19,20]
def BPx:Cd:=.ret
def BPv:Cd:=.seq (.seq (.reg false [mv 17 8,
    o_ 18 (.max [(.t 17),(.c (.int .i64) (0:Int))]),
    mv 19 8,
    bc 20 .geq 19 0,
    mv 6 18,
    mv 7 20]) (BPy)) (BPx)
def BPu:Cd:=.seq (.seq (.reg false [fa 9 Zb 0 3,
    fa 10 Z3 0 9,
    o_ 11 (.load (.d (.sl (.arr 4 (.int .i64)))) (.t 10)),
    mv 12 1,
    mv 13 2,
    o_ 14 (.index (.sl (.arr 4 (.int .i64))) (.t 11) (.t 12)),
    o_ 15 (.index (.arr 4 (.int .i64)) (.t 14) (.t 13)),
    ld 16 (.int .i64) 15,
    mv 8 16]) (BPw)) (BPv)
def J0.fn:Fn:=⟨3,[.tmp 6,.tmp 7],.seq (.reg false [bx 3 0 0,
    ci 6 0,
    o_ 7 (.move (.c .bool false))]) (BPu)⟩
def CBq:Cd:=td [11,12,13,14,15]
def CBs:Cd:=td [16,17,18,19,20]
def CBv:Cd:=td [21]
def BZp:Cd:=td [24]
def CAc:Cd:=td [25]
def CBx:Cd:=.cond (.t 23) (.skip) (.seq (.reg false [bc 25 .eql 22 2,
    mv 23 25]) (CAc))
def BZr:Cd:=td [26,27,28,29,30,31,32,33]
def BZu:Cd:=td [35,36,37,38,39]
def BZt:Cd:=.seq (.reg false [mv 35 8,
    mv 36 9,
    o_ 37 (.build Za [(0,(.c (.int .i64) (0:Int))),(1,(.t 36))] []),
    o_ 38 (.slice 3 Za [(.t 37)]),
    o_ 39 (.append 4 Za (.t 35) (.t 38)),
    mv 8 39]) (BZu)
def CAb:Cd:=.skip
def BZs:Cd:=.cond (.t 34) (.seq (td [34]) (BZt)) (.seq (td [34]) (CAb))
def BZq:Cd:=.seq (.reg false [mv 34 10]) (BZs)
def CBw:Cd:=.cond (.t 23) (.seq (.seq (.reg false [ld 27 Zb 3,
    mv 28 7,
    fa 29 Zz 1 5,
    ld 30 (.int .i64) 29,
    o_ 31 (.call (.f 25) [(.t 27),(.t 28),(.t 30)] [.d (.int .i64),.d .bool] [] false),
    mv 26 31,
    xt 32 26 0,
    xt 33 26 1,
    mv 9 32,
    mv 10 33]) (BZr)) (BZq)) (.skip)
def CBu:Cd:=.block 0 (.seq (.seq (.seq (.reg false [bc 24 .eql 22 1,
    mv 23 24]) (BZp)) (CBx)) (CBw))
def BZx:Cd:=td [40]
def BZ0:Cd:=td [43]
def BZ9:Cd:=td [44]
def CAa:Cd:=td [45]
def BZ8:Cd:=.cond (.t 42) (.skip) (.seq (.reg false [bc 45 .eql 41 8,
    mv 42 45]) (CAa))
def BZz:Cd:=.cond (.t 42) (.skip) (.seq (.seq (.reg false [bc 44 .eql 41 7,
    mv 42 44]) (BZ9)) (BZ8))
def BZ2:Cd:=td [46,47,48,49,50,51,52,53,54,55]
def BZ4:Cd:=td [57,58,59,60,61,62]
def BZ3:Cd:=.seq (.reg false [mv 57 8,
    fa 58 Zz 4 5,
    ld 59 (.int .i64) 58,
    o_ 60 (.build Za [(0,(.c (.int .i64) (1:Int))),(1,(.t 59))] []),
    o_ 61 (.slice 5 Za [(.t 60)]),
    o_ 62 (.append 6 Za (.t 57) (.t 61)),
    mv 8 62]) (BZ4)
def BZ7:Cd:=.skip
def BZ1:Cd:=.cond (.t 56) (.seq (td [56]) (BZ3)) (.seq (td [56]) (BZ7))
def BZy:Cd:=.cond (.t 42) (.seq (.seq (.reg false [fa 46 Zz 4 5,
    ld 47 (.int .i64) 46,
    bc 48 .geq 47 0,
    mv 49 48,
    og 50 (.fieldAddr (.d Zz) 4 (.t 5)) 49 true,
    og 51 (.load (.d (.int .i64)) (.t 50)) 49 true,
    og 52 (.fieldAddr (.d Zb) 1 (.t 3)) 49 true,
    og 53 (.load (.d (.sl (.int .i64))) (.t 52)) 49 true,
    og 54 (.len (.t 53)) 49 true,
    og 55 (.bin .lss (.t 51) (.t 54)) 49 true,
    o_ 56 (.pick (.t 49) (.t 55) (.c .bool false))]) (BZ2)) (BZ1)) (.skip)
def BZw:Cd:=.block 1 (.seq (.seq (.seq (.reg false [bc 43 .eql 41 2,
    mv 42 43]) (BZ0)) (BZz)) (BZy))
def BZ6:Cd:=td [63,64]
def BZ5:Cd:=.ret
def BZv:Cd:=.seq (.seq (.reg false [mv 63 8,
    o_ 64 (.call (.f 26) [(.t 63)] [.d (.sl Za)] [] false),
    mv 6 64]) (BZ6)) (BZ5)
def CBt:Cd:=.seq (.seq (.seq (.reg false [fa 40 Zz 0 5,
    ld 41 (.int .i64) 40]) (BZx)) (BZw)) (BZv)
def CBr:Cd:=.seq (.seq (.seq (.reg false [fa 21 Zz 0 5,
    ld 22 (.int .i64) 21]) (CBv)) (CBu)) (CBt)
def CBp:Cd:=.seq (.seq (.reg false [mv 16 7,
    o_ 17 (.build Za [(0,(.c (.int .i64) (0:Int))),(1,(.t 16))] []),
    mv 18 1,
    o_ 19 (.build Za [(0,(.c (.int .i64) (1:Int))),(1,(.t 18))] []),
    o_ 20 (.slice 2 Za [(.t 17),(.t 19)]),
    mv 8 20]) (CBs)) (CBr)
def CBo:Cd:=.seq (.seq (.reg false [fa 11 Zb 1 3,
    o_ 12 (.load (.d (.sl (.int .i64))) (.t 11)),
    mv 13 1,
    ix 14 (.sl (.int .i64)) 12 13,
    ld 15 (.int .i64) 14,
    mv 7 15]) (CBq)) (CBp)
def Hp.fn:Fn:=⟨3,[.tmp 6],.seq (.reg false [bx 3 0 0,
    bx 5 1 2,
    o_ 6 (.move (.c (.sl Za) []))]) (CBo)⟩
def BN9:Cd:=td [6,7,8,9]
def BOb:Cd:=.ret
def BOa:Cd:=.seq (.reg false [o_ 4 (.move (.c .bool false))]) (BOb)
def BOc:Cd:=.skip
def BN8:Cd:=.cond (.t 10) (.seq (td [10]) (BOa)) (.seq (td [10]) (BOc))
def BAe:Cd:=td [11,12,13]
def BAf:Cd:=.skip
def BAn:Cd:=.exit 0
def BAd:Cd:=.cond (.t 14) (.seq (td [14]) (BAf)) (.seq (td [14]) (BAn))
def BAi:Cd:=td [17,18,19,20,21,22,23,24]
def BAk:Cd:=.ret
def BAj:Cd:=.seq (.reg false [o_ 4 (.move (.c .bool false))]) (BAk)
def BAl:Cd:=.skip
def BAh:Cd:=.cond (.t 25) (.seq (td [25]) (BAj)) (.seq (td [25]) (BAl))
def BAm:Cd:=td [15,16]
def BAg:Cd:=.seq (.reg false [mv 15 5,
    bc 16 .add 15 1,
    mv 5 16]) (BAm)
def BAc:Cd:=.seq (.block 1 (.seq (.seq (.reg true [mv 17 0,
    mv 18 5,
    ix 19 (.sl Za) 17 18,
    ld 20 Za 19,
    mv 21 1,
    mv 22 5,
    ix 23 (.sl Za) 21 22,
    ld 24 Za 23,
    o_ 25 (.eqs Za true (.t 20) (.t 24))]) (BAi)) (BAh))) (BAg)
def BAb:Cd:=.tidy [] [] [] (some 0)
def ATt:Cd:=.seq (.seq (.seq (.seq (.reg false [mv 11 5,
    mv 12 0,
    le 13 12,
    bi 14 .lss 11 13]) (BAe)) (BAd)) (BAc)) (BAb)
def BOd:Cd:=.block 0 (.loop (ATt))
def BAo:Cd:=.ret
def ATs:Cd:=.seq (.reg false [o_ 4 (.move (.c .bool true))]) (BAo)
def BN7:Cd:=.seq (.seq (.reg false [ci 5 0]) (BOd)) (ATs)
def BN6:Cd:=.seq (.seq (.seq (.reg false [mv 6 0,
    le 7 6,
    mv 8 1,
    le 9 8,
    bi 10 .neq 7 9]) (BN9)) (BN8)) (BN7)
def Z4.fn:Fn:=⟨2,[.tmp 4],.seq (.reg false [o_ 4 (.move (.c .bool false))]) (BN6)⟩
def BWb:Cd:=td [6]
def BWg:Cd:=.skip
def BKd:Cd:=.exit 0
def BJ5:Cd:=td [10]
def BJ7:Cd:=td [11,12,13,14,15]
def BKa:Cd:=td [17]
def BJ9:Cd:=.ret
def BJ8:Cd:=.seq (.seq (.reg false [mv 17 5,
    mv 4 17]) (BKa)) (BJ9)
def BKb:Cd:=.skip
def BJ6:Cd:=.cond (.t 16) (.seq (td [16]) (BJ8)) (.seq (td [16]) (BKb))
def BJ4:Cd:=.seq (.seq (.reg true [od 11 (.load (.d Za) (.t 3)) [0] [],
    mv 12 0,
    mv 13 5,
    ix 14 (.sl Za) 12 13,
    ld 15 Za 14,
    o_ 16 (.eqs Za false (.t 11) (.t 15))]) (BJ7)) (BJ6)
def BKc:Cd:=td [18]
def BWh:Cd:=.seq (.reg false [bc 18 .add 8 1,
    mv 8 18]) (BKc)
def BWf:Cd:=.seq (.block 1 (.seq (.seq (.reg false [mv 10 8,
    mv 5 10]) (BJ5)) (BJ4))) (BWh)
def BWe:Cd:=.seq (.cond (.t 9) (.seq (td [9]) (BWg)) (.seq (td [9]) (BKd))) (BWf)
def BWd:Cd:=.tidy [5] [] [] (some 1)
def BWc:Cd:=.seq (.seq (.reg false [bi 9 .lss 8 7]) (BWe)) (BWd)
def BWa:Cd:=.block 0 (.loop (BWc))
def BKe:Cd:=.ret
def BV9:Cd:=.seq (.reg false [o_ 4 (.move (.c (.int .i64) ((-1):Int)))]) (BKe)
def BV8:Cd:=.seq (.seq (.seq (.reg false [mv 6 0,
    le 7 6,
    ci 8 0]) (BWb)) (BWa)) (BV9)
def Yd.fn:Fn:=⟨2,[.tmp 4],.seq (.reg false [bx 3 0 1,
    ci 4 0]) (BV8)⟩
def BP7:Cd:=td [5,6,7,8]
def BP6:Cd:=.ret
def BP5:Cd:=.seq (.seq (.reg false [mv 5 0,
    ld 6 Za 3,
    o_ 7 (.call (.f 70) [(.t 5),(.t 6)] [.d (.int .i64)] [] false),
    bc 8 .geq 7 0,
    mv 4 8]) (BP7)) (BP6)
def X5.fn:Fn:=⟨2,[.tmp 4],.seq (.reg false [bx 3 0 1,
    o_ 4 (.move (.c .bool false))]) (BP5)⟩
def BP4:Cd:=td [6,7,8,9,10]
def BP3:Cd:=.ret
def BP2:Cd:=.seq (.seq (.reg false [ld 6 (.sl Za) 2,
    mv 7 0,
    mv 8 1,
    o_ 9 (.build Za [(0,(.t 7)),(1,(.t 8))] []),
    o_ 10 (.call (.f 30) [(.t 6),(.t 9)] [.d .bool] [] false),
    mv 5 10]) (BP4)) (BP3)
def K5.fn:Fn:=⟨3,[.tmp 5],.seq (.reg false [o_ 5 (.move (.c .bool false))]) (BP2)⟩
def BWk:Cd:=td [5]
def BWj:Cd:=.ret
def BWi:Cd:=.seq (.seq (.reg false [o_ 5 (.func 123 [(.t 2),(.t 3)]),
    mv 4 5]) (BWk)) (BWj)
def G0.fn:Fn:=⟨2,[.tmp 4],.seq (.reg false [bx 2 0 0,
    bx 3 1 1,
    o_ 4 (.move .nf)]) (BWi)⟩
def BQa:Cd:=td [6,7,8,9]
def BQc:Cd:=td [10,11,12,13,14,15]
def BQb:Cd:=.ret
def BP9:Cd:=.seq (.seq (.reg false [mv 10 5,
    mv 11 5,
    le 12 11,
    bc 13 .sub 12 1,
    ix 14 (.sl Za) 10 13,
    ld 15 Za 14,
    sr Za 4 15]) (BQc)) (BQb)
def BP8:Cd:=.seq (.seq (.reg false [ld 6 Zb 2,
    mv 7 1,
    o_ 8 (.call (.f 72) [(.t 6),(.t 7)] [.clo 123 [.ref Zb,.ref (.int .i64)]] [] false),
    o_ 9 (.call (.f 71) [(.t 8)] [.d (.sl Za)] [] false),
    mv 5 9]) (BQa)) (BP9)
def Kf.fn:Fn:=⟨2,[.cell 4 (.d Za)],.seq (.reg false [bx 2 0 0,
    nb 4 1 Za]) (BP8)⟩
def BNd:Cd:=td [12]
def BNg:Cd:=td [13,14]
def AW3:Cd:=.skip
def AXd:Cd:=.exit 0
def AW6:Cd:=td [18]
def AW8:Cd:=td [19,20,21,22,23,24,25,26,27,28,29,30,31,32,33,34,35,36,37,38,39,40,41,42,43,44,45,46,47]
def AXa:Cd:=.ret
def AW9:Cd:=.seq (.reg false [o_ 6 (.move (.c .bool false))]) (AXa)
def AXb:Cd:=.skip
def AW7:Cd:=.cond (.t 48) (.seq (td [48]) (AW9)) (.seq (td [48]) (AXb))
def AW5:Cd:=.seq (.seq (.reg true [od 19 (.fieldAddr (.d Zb) 1 (.t 4)) [1] [],
    od 20 (.load (.d (.sl (.int .i64))) (.t 19)) [1] [],
    mv 21 8,
    ix 22 (.sl (.int .i64)) 20 21,
    ld 23 (.int .i64) 22,
    od 24 (.fieldAddr (.d Zb) 1 (.t 5)) [2] [],
    od 25 (.load (.d (.sl (.int .i64))) (.t 24)) [2] [],
    mv 26 8,
    ix 27 (.sl (.int .i64)) 25 26,
    ld 28 (.int .i64) 27,
    bi 29 .neq 23 28,
    mv 30 29,
    ogd 31 (.fieldAddr (.d Zb) 2 (.t 4)) 30 false [1],
    ogd 32 (.load (.d (.sl (.int .i64))) (.t 31)) 30 false [1],
    og 33 (.move (.t 8)) 30 false,
    og 34 (.index (.sl (.int .i64)) (.t 32) (.t 33)) 30 false,
    og 35 (.load (.d (.int .i64)) (.t 34)) 30 false,
    ogd 36 (.fieldAddr (.d Zb) 2 (.t 5)) 30 false [2],
    ogd 37 (.load (.d (.sl (.int .i64))) (.t 36)) 30 false [2],
    og 38 (.move (.t 8)) 30 false,
    og 39 (.index (.sl (.int .i64)) (.t 37) (.t 38)) 30 false,
    og 40 (.load (.d (.int .i64)) (.t 39)) 30 false,
    og 41 (.bin .neq (.t 35) (.t 40)) 30 false,
    o_ 42 (.pick (.t 30) (.c .bool true) (.t 41)),
    mv 43 42,
    og 44 (.move (.t 7)) 43 true,
    og 45 (.move (.t 8)) 43 true,
    ogd 46 (.call (.t 44) [(.c (.int .i64) (1:Int)),(.t 45)] [.d .bool] [] false) 43 true [0],
    og 47 (.not (.t 46)) 43 true,
    o_ 48 (.pick (.t 43) (.t 47) (.c .bool false))]) (AW8)) (AW7)
def AXc:Cd:=td [49]
def AW4:Cd:=.seq (.reg false [bc 49 .add 16 1,
    mv 16 49]) (AXc)
def BNk:Cd:=.seq (.block 1 (.seq (.seq (.reg false [mv 18 16,
    mv 8 18]) (AW6)) (AW5))) (AW4)
def BNj:Cd:=.seq (.cond (.t 17) (.seq (td [17]) (AW3)) (.seq (td [17]) (AXd))) (BNk)
def BNi:Cd:=.tidy [8] [] [] (some 3)
def BNh:Cd:=.seq (.seq (.reg false [bi 17 .lss 16 15]) (BNj)) (BNi)
def BNf:Cd:=.block 0 (.loop (BNh))
def AXg:Cd:=td [50,51]
def AXl:Cd:=.skip
def AXx:Cd:=.exit 2
def AXo:Cd:=td [55]
def AXq:Cd:=td [56,57,58,59,60,61]
def AXs:Cd:=td [62,63,64,65,66,67,68,69,70,71,72,73,74,75,76,77,78,79,80,81,82,83,84,85,86,87,88]
def AXu:Cd:=.ret
def AXt:Cd:=.seq (.reg false [o_ 6 (.move (.c .bool false))]) (AXu)
def AXv:Cd:=.skip
def AXr:Cd:=.cond (.t 89) (.seq (td [89]) (AXt)) (.seq (td [89]) (AXv))
def AXp:Cd:=.seq (.seq (.reg true [od 62 (.fieldAddr (.d Zb) 3 (.t 4)) [1] [],
    od 63 (.load (.d (.sl Za)) (.t 62)) [1] [],
    mv 64 9,
    ix 65 (.sl Za) 63 64,
    ld 66 Za 65,
    od 67 (.fieldAddr (.d Zb) 3 (.t 5)) [2] [],
    od 68 (.load (.d (.sl Za)) (.t 67)) [2] [],
    mv 69 9,
    ix 70 (.sl Za) 68 69,
    ld 71 Za 70,
    o_ 72 (.eqs Za true (.t 66) (.t 71)),
    mv 73 72,
    og 74 (.move (.t 7)) 73 true,
    ogd 75 (.fieldAddr (.d Za) 0 (.t 10)) 73 true [3],
    ogd 76 (.load (.d (.int .i64)) (.t 75)) 73 true [3],
    ogd 77 (.fieldAddr (.d Za) 1 (.t 10)) 73 true [3],
    ogd 78 (.load (.d (.int .i64)) (.t 77)) 73 true [3],
    ogd 79 (.call (.t 74) [(.t 76),(.t 78)] [.d .bool] [] false) 73 true [0],
    og 80 (.move (.t 79)) 73 true,
    og 81 (.move (.t 7)) 80 true,
    ogd 82 (.fieldAddr (.d Za) 0 (.t 11)) 80 true [4],
    ogd 83 (.load (.d (.int .i64)) (.t 82)) 80 true [4],
    ogd 84 (.fieldAddr (.d Za) 1 (.t 11)) 80 true [4],
    ogd 85 (.load (.d (.int .i64)) (.t 84)) 80 true [4],
    ogd 86 (.call (.t 81) [(.t 83),(.t 85)] [.d .bool] [] false) 80 true [0],
    og 87 (.pick (.t 80) (.t 86) (.c .bool false)) 73 true,
    og 88 (.not (.t 87)) 73 true,
    o_ 89 (.pick (.t 73) (.t 88) (.c .bool false))]) (AXs)) (AXr)
def AXn:Cd:=.seq (.seq (.reg true [od 56 (.load (.d Zb) (.t 4)) [1] [],
    mv 57 9,
    o_ 58 (.call (.f 31) [(.t 56),(.t 57)] [.d Za] [] false),
    od 59 (.load (.d Zb) (.t 5)) [2] [],
    mv 60 9,
    o_ 61 (.call (.f 31) [(.t 59),(.t 60)] [.d Za] [] false),
    od 10 (.newbox 3 Za []) [] [3],
    od 11 (.newbox 4 Za []) [] [4],
    ⟨none,.store (.d Za) (.t 10) (.t 58),none,[],[3]⟩,
    ⟨none,.store (.d Za) (.t 11) (.t 61),none,[],[4]⟩]) (AXq)) (AXp)
def AXw:Cd:=td [90]
def AXm:Cd:=.seq (.reg false [bc 90 .add 53 1,
    mv 53 90]) (AXw)
def AXk:Cd:=.seq (.block 3 (.seq (.seq (.reg false [mv 55 53,
    mv 9 55]) (AXo)) (AXn))) (AXm)
def AXj:Cd:=.seq (.cond (.t 54) (.seq (td [54]) (AXl)) (.seq (td [54]) (AXx))) (AXk)
def AXi:Cd:=.tidy [9,10,11] [] [] (some 3)
def AXh:Cd:=.seq (.seq (.reg false [bi 54 .lss 53 52]) (AXj)) (AXi)
def AXf:Cd:=.block 2 (.loop (AXh))
def AXy:Cd:=.ret
def AXe:Cd:=.seq (.reg false [o_ 6 (.move (.c .bool true))]) (AXy)
def BNe:Cd:=.seq (.seq (.seq (.reg false [fa 50 Zb 3 4,
    ld 51 (.sl Za) 50,
    le 52 51,
    ci 53 0]) (AXg)) (AXf)) (AXe)
def BNc:Cd:=.seq (.seq (.seq (.reg false [fa 13 Zb 1 4,
    o_ 14 (.load (.d (.sl (.int .i64))) (.t 13)),
    le 15 14,
    ci 16 0]) (BNg)) (BNf)) (BNe)
def BNb:Cd:=.seq (.seq (.reg false [o_ 12 (.func 29 [(.t 3)]),
    mv 7 12]) (BNd)) (BNc)
def Gg.fn:Fn:=⟨3,[.tmp 6],.seq (.reg false [bx 3 0 0,
    bx 4 1 1,
    bx 5 2 2,
    o_ 6 (.move (.c .bool false))]) (BNb)⟩
def CA0:Cd:=td [4,5,6,7,8,9,10,11,12]
def CA2:Cd:=td [13,14]
def CA4:Cd:=td [15,16,17,18]
def CA6:Cd:=td [19,20,21]
def BUj:Cd:=.reg true [od 22 (.load (.d Zb) (.t 1)) [5] [],
    o_ 23 (.build Zz [(0,(.c (.int .i64) (9:Int)))] []),
    o_ 24 (.call (.f 9) [(.t 22),(.c (.int .i64) (0:Int)),(.t 23)] [.d (.sl Za)] [] false),
    mv 25 3,
    od 26 (.call (.f 18) [(.t 24),(.t 25)] [.d .bool] [] false) [7] [],
    mv 27 26,
    ogd 28 (.load (.d Zb) (.t 1)) 27 true [5],
    og 29 (.build Zz [(0,(.c (.int .i64) (2:Int))),(4,(.c (.int .i64) (1:Int)))] []) 27 true,
    og 30 (.call (.f 9) [(.t 28),(.c (.int .i64) (0:Int)),(.t 29)] [.d (.sl Za)] [] false) 27 true,
    og 31 (.build Za [] []) 27 true,
    og 32 (.build Za [(1,(.c (.int .i64) (1:Int)))] []) 27 true,
    og 33 (.build Za [(0,(.c (.int .i64) (1:Int)))] []) 27 true,
    og 34 (.build Za [(0,(.c (.int .i64) (1:Int))),(1,(.c (.int .i64) (1:Int)))] []) 27 true,
    ⟨some 35,.slice 8 Za [(.t 31),(.t 32),(.t 33),(.t 34)],some (27,true),[],[8]⟩,
    ogd 36 (.call (.f 18) [(.t 30),(.t 35)] [.d .bool] [] false) 27 true [8],
    o_ 37 (.pick (.t 27) (.t 36) (.c .bool false)),
    mv 38 37,
    ogd 39 (.load (.d Zb) (.t 1)) 38 true [5],
    og 40 (.build Zz [(0,(.c (.int .i64) (1:Int))),(1,(.c (.int .i64) (1:Int)))] []) 38 true,
    og 41 (.call (.f 9) [(.t 39),(.c (.int .i64) (0:Int)),(.t 40)] [.d (.sl Za)] [] false) 38 true,
    og 42 (.move (.t 3)) 38 true,
    ogd 43 (.call (.f 18) [(.t 41),(.t 42)] [.d .bool] [] false) 38 true [7],
    o_ 44 (.pick (.t 38) (.t 43) (.c .bool false)),
    mv 45 44,
    ogd 46 (.load (.d Zb) (.t 1)) 45 true [5],
    og 47 (.build Zz [(0,(.c (.int .i64) (7:Int))),(4,(.c (.int .i64) (7:Int)))] []) 45 true,
    og 48 (.call (.f 9) [(.t 46),(.c (.int .i64) (0:Int)),(.t 47)] [.d (.sl Za)] [] false) 45 true,
    og 49 (.move (.t 3)) 45 true,
    ogd 50 (.call (.f 18) [(.t 48),(.t 49)] [.d .bool] [] false) 45 true [7],
    o_ 51 (.pick (.t 45) (.t 50) (.c .bool false)),
    mv 52 51,
    og 53 (.move (.t 3)) 52 true,
    ogd 54 (.load (.d Zb) (.t 1)) 52 true [5],
    ogd 55 (.load (.d Zb) (.t 2)) 52 true [6],
    ogd 56 (.call (.f 11) [(.t 53),(.t 54),(.t 55)] [.d .bool] [] false) 52 true [7,9],
    o_ 57 (.pick (.t 52) (.t 56) (.c .bool false)),
    mv 58 57,
    og 59 (.move (.t 3)) 58 true,
    ogd 60 (.slx Za (.t 59) none (some (.c (.int .i64) (1:Int)))) 58 true [7],
    ogd 61 (.load (.d Zb) (.t 1)) 58 true [5],
    ogd 62 (.load (.d Zb) (.t 2)) 58 true [6],
    ogd 63 (.call (.f 11) [(.t 60),(.t 61),(.t 62)] [.d .bool] [] false) 58 true [9],
    og 64 (.not (.t 63)) 58 true,
    o_ 65 (.pick (.t 58) (.t 64) (.c .bool false)),
    mv 66 65,
    ogd 67 (.load (.d Zb) (.t 1)) 66 true [5],
    ogd 68 (.load (.d Zb) (.t 1)) 66 true [5],
    og 69 (.call (.f 11) [(.c (.sl Za) ([]:List (den Za))),(.t 67),(.t 68)] [.d .bool] [] false) 66 true,
    o_ 70 (.pick (.t 66) (.t 69) (.c .bool false)),
    mv 0 70]
def BUi:Cd:=td [22,23,24,25,26,27,28,29,30,31,32,33,34,35,36,37,38,39,40,41,42,43,44,45,46,47,48,49,50,51,52,53,54,55,56,57,58,59,60,61,62,63,64,65,66,67,68,69,70]
def CA7:Cd:=.ret
def CA5:Cd:=.seq (.seq (.seq (.frz [7]) (BUj)) (BUi)) (CA7)
def CA3:Cd:=.seq (.seq (.reg false [o_ 19 (.build Za [] []),
    o_ 20 (.build Za [(0,(.c (.int .i64) (1:Int)))] []),
    o_ 21 (.slice 7 Za [(.t 19),(.t 20)]),
    mv 3 21]) (CA6)) (CA5)
def CA1:Cd:=.seq (.seq (.reg false [fa 15 Zb 3 2,
    ld 16 (.sl Za) 15,
    o_ 17 (.build Za [(0,(.c (.int .i64) (1:Int)))] []),
    o_ 18 (.index (.sl Za) (.t 16) (.c (.int .i64) (0:Int))),
    sr Za 18 17]) (CA4)) (CA3)
def CAz:Cd:=.seq (.seq (.reg false [ld 13 Zb 1,
    o_ 14 (.call (.f 20) [(.t 13)] [.d Zb] [((0,[3]),9)] false),
    nb 2 6 Zb,
    sr Zb 2 14]) (CA2)) (CA1)
def CAy:Cd:=.seq (.seq (.reg false [o_ 4 (.build (.arr 4 (.int .i64)) [(0,(.c (.int .i64) (1:Int))),(1,(.c (.int .i64) ((-1):Int))),(2,(.c (.int .i64) ((-1):Int))),(3,(.c (.int .i64) ((-1):Int)))] []),
    o_ 5 (.build (.arr 4 (.int .i64)) [(0,(.c (.int .i64) ((-1):Int))),(1,(.c (.int .i64) ((-1):Int))),(2,(.c (.int .i64) (0:Int))),(3,(.c (.int .i64) ((-1):Int)))] []),
    o_ 6 (.slice 0 (.arr 4 (.int .i64)) [(.t 4),(.t 5)]),
    o_ 7 (.slice 1 (.int .i64) [(.c (.int .i64) (0:Int)),(.c (.int .i64) (0:Int))]),
    o_ 8 (.slice 2 (.int .i64) [(.c (.int .i64) (5:Int)),(.c (.int .i64) (2:Int))]),
    o_ 9 (.slice 3 (.int .i64) [(.c (.int .i64) (0:Int))]),
    o_ 10 (.slice 4 .bool [(.c .bool false)]),
    o_ 11 (.build Z3 [(0,(.t 6)),(1,(.t 7)),(2,(.t 8)),(3,(.t 9)),(4,(.t 10)),(5,(.c (.int .i64) (4:Int))),(6,(.c (.int .i64) (2:Int))),(7,(.c (.int .i64) (1:Int)))] []),
    o_ 12 (.call (.f 19) [(.t 11)] [.d Zb] [] false),
    nb 1 5 Zb,
    sr Zb 1 12]) (CA0)) (CAz)
def X0.fn:Fn:=⟨0,[.tmp 0],.seq (.reg false [o_ 0 (.move (.c .bool false))]) (CAy)⟩
def BOz:Cd:=td [4,5]
def BO1:Cd:=td [6,7,8,9,10,11,12,13,14,15,16,17,18,19,20,21,22,23,24,25,26,27,28,29,30,31,32,33,34,35,36,37,38,39,40,41,42,43,44,45,46,47,48,49,50,51]
def BO0:Cd:=.ret
def BOy:Cd:=.seq (.seq (.reg false [fa 6 Z3 0 3,
    o_ 7 (.load (.d (.sl (.arr 4 (.int .i64)))) (.t 6)),
    le 8 7,
    bc 9 .leq 8 20,
    mv 10 9,
    og 11 (.fieldAddr (.d Z3) 1 (.t 3)) 10 true,
    og 12 (.load (.d (.sl (.int .i64))) (.t 11)) 10 true,
    og 13 (.len (.t 12)) 10 true,
    og 14 (.bin .leq (.t 13) (.c (.int .i64) (20:Int))) 10 true,
    o_ 15 (.pick (.t 10) (.t 14) (.c .bool false)),
    mv 16 15,
    og 17 (.fieldAddr (.d Z3) 2 (.t 3)) 16 true,
    og 18 (.load (.d (.sl (.int .i64))) (.t 17)) 16 true,
    og 19 (.len (.t 18)) 16 true,
    og 20 (.bin .leq (.t 19) (.c (.int .i64) (20:Int))) 16 true,
    o_ 21 (.pick (.t 16) (.t 20) (.c .bool false)),
    mv 22 21,
    og 23 (.fieldAddr (.d Z3) 3 (.t 3)) 22 true,
    og 24 (.load (.d (.sl (.int .i64))) (.t 23)) 22 true,
    og 25 (.len (.t 24)) 22 true,
    og 26 (.bin .leq (.t 25) (.c (.int .i64) (40:Int))) 22 true,
    o_ 27 (.pick (.t 22) (.t 26) (.c .bool false)),
    mv 28 27,
    og 29 (.fieldAddr (.d Z3) 4 (.t 3)) 28 true,
    og 30 (.load (.d (.sl .bool)) (.t 29)) 28 true,
    og 31 (.len (.t 30)) 28 true,
    og 32 (.bin .leq (.t 31) (.c (.int .i64) (40:Int))) 28 true,
    o_ 33 (.pick (.t 28) (.t 32) (.c .bool false)),
    mv 34 33,
    og 35 (.fieldAddr (.d Zb) 1 (.t 1)) 34 true,
    og 36 (.load (.d (.sl (.int .i64))) (.t 35)) 34 true,
    og 37 (.len (.t 36)) 34 true,
    og 38 (.bin .leq (.t 37) (.c (.int .i64) (40:Int))) 34 true,
    o_ 39 (.pick (.t 34) (.t 38) (.c .bool false)),
    mv 40 39,
    og 41 (.fieldAddr (.d Zb) 2 (.t 1)) 40 true,
    og 42 (.load (.d (.sl (.int .i64))) (.t 41)) 40 true,
    og 43 (.len (.t 42)) 40 true,
    og 44 (.bin .leq (.t 43) (.c (.int .i64) (40:Int))) 40 true,
    o_ 45 (.pick (.t 40) (.t 44) (.c .bool false)),
    mv 46 45,
    og 47 (.fieldAddr (.d Zb) 3 (.t 1)) 46 true,
    og 48 (.load (.d (.sl Za)) (.t 47)) 46 true,
    og 49 (.len (.t 48)) 46 true,
    og 50 (.bin .leq (.t 49) (.c (.int .i64) (40:Int))) 46 true,
    o_ 51 (.pick (.t 46) (.t 50) (.c .bool false)),
    mv 2 51]) (BO1)) (BO0)
def BOx:Cd:=.seq (.seq (.reg false [fa 4 Zb 0 1,
    ld 5 Z3 4,
    nb 3 1 Z3,
    sr Z3 3 5]) (BOz)) (BOy)
def Yj.fn:Fn:=⟨1,[.tmp 2],.seq (.reg false [bx 1 0 0,
    o_ 2 (.move (.c .bool false))]) (BOx)⟩
def BRd:Cd:=td [5,6,7,8,9,10,11]
def BRc:Cd:=.ret
def BRb:Cd:=.seq (.seq (.reg false [mv 5 0,
    bc 6 .geq 5 0,
    mv 7 6,
    og 8 (.move (.t 0)) 7 true,
    og 9 (.move (.t 1)) 7 true,
    og 10 (.bin .lss (.t 8) (.t 9)) 7 true,
    o_ 11 (.pick (.t 7) (.t 10) (.c .bool false)),
    mv 4 11]) (BRd)) (BRc)
def Xe.fn:Fn:=⟨2,[.tmp 4],.seq (.reg false [o_ 4 (.move (.c .bool false))]) (BRb)⟩
def BRg:Cd:=td [3,4,5,6,7,8]
def BRf:Cd:=.ret
def BRe:Cd:=.seq (.seq (.reg false [mv 3 0,
    o_ 4 (.bin .leq (.c (.int .i64) (0:Int)) (.t 3)),
    mv 5 4,
    og 6 (.move (.t 0)) 5 true,
    og 7 (.bin .leq (.t 6) (.c (.int .i64) (1073741824:Int))) 5 true,
    o_ 8 (.pick (.t 5) (.t 7) (.c .bool false)),
    mv 2 8]) (BRg)) (BRf)
def Yr.fn:Fn:=⟨1,[.tmp 2],.seq (.reg false [o_ 2 (.move (.c .bool false))]) (BRe)⟩
def BQ3:Cd:=td [10,11,12]
def BQ6:Cd:=td [13,14,15,16,17,18,19,20,21,22,23,24,25,26,27,28,29,30,31,32,33,34,35,36,37,38,39,40,41,42,43,44,45,46,47,48,49,50,51,52,53]
def BQ8:Cd:=.ret
def BQ7:Cd:=.seq (.reg false [o_ 2 (.move (.c .bool false))]) (BQ8)
def BQ9:Cd:=.skip
def BQ5:Cd:=.cond (.t 54) (.seq (td [54]) (BQ7)) (.seq (td [54]) (BQ9))
def BDx:Cd:=td [55,56,57,58,59,60,61,62,63,64,65,66,67,68,69]
def BDz:Cd:=.ret
def BDy:Cd:=.seq (.reg false [o_ 2 (.move (.c .bool false))]) (BDz)
def BD0:Cd:=.skip
def BDw:Cd:=.cond (.t 70) (.seq (td [70]) (BDy)) (.seq (td [70]) (BD0))
def BD4:Cd:=td [71,72]
def BD5:Cd:=.skip
def BE5:Cd:=.exit 0
def BD3:Cd:=.cond (.t 73) (.seq (td [73]) (BD5)) (.seq (td [73]) (BE5))
def BEa:Cd:=td [76]
def BEb:Cd:=.skip
def BEj:Cd:=.exit 2
def BD9:Cd:=.cond (.t 77) (.seq (td [77]) (BEb)) (.seq (td [77]) (BEj))
def BEe:Cd:=td [80,81,82,83,84,85,86,87,88,89,90,91,92,93,94,95,96,97,98]
def BEg:Cd:=.ret
def BEf:Cd:=.seq (.reg false [o_ 2 (.move (.c .bool false))]) (BEg)
def BEh:Cd:=.skip
def BEd:Cd:=.cond (.t 99) (.seq (td [99]) (BEf)) (.seq (td [99]) (BEh))
def BEi:Cd:=td [78,79]
def BEc:Cd:=.seq (.reg false [mv 78 5,
    bc 79 .add 78 1,
    mv 5 79]) (BEi)
def BD8:Cd:=.seq (.block 3 (.seq (.seq (.reg false [fa 80 Z3 0 1,
    o_ 81 (.load (.d (.sl (.arr 4 (.int .i64)))) (.t 80)),
    mv 82 4,
    mv 83 5,
    o_ 84 (.index (.sl (.arr 4 (.int .i64))) (.t 81) (.t 82)),
    o_ 85 (.index (.arr 4 (.int .i64)) (.t 84) (.t 83)),
    ld 86 (.int .i64) 85,
    o_ 87 (.bin .neq (.t 86) (.c (.int .i64) ((-1):Int))),
    mv 88 87,
    og 89 (.fieldAddr (.d Z3) 0 (.t 1)) 88 true,
    og 90 (.load (.d (.sl (.arr 4 (.int .i64)))) (.t 89)) 88 true,
    og 91 (.move (.t 4)) 88 true,
    og 92 (.move (.t 5)) 88 true,
    og 93 (.index (.sl (.arr 4 (.int .i64))) (.t 90) (.t 91)) 88 true,
    og 94 (.index (.arr 4 (.int .i64)) (.t 93) (.t 92)) 88 true,
    og 95 (.load (.d (.int .i64)) (.t 94)) 88 true,
    og 96 (.move (.t 3)) 88 true,
    og 97 (.call (.f 37) [(.t 95),(.t 96)] [.d .bool] [] false) 88 true,
    og 98 (.not (.t 97)) 88 true,
    o_ 99 (.pick (.t 88) (.t 98) (.c .bool false))]) (BEe)) (BEd))) (BEc)
def BD7:Cd:=.tidy [] [] [] (some 1)
def AMt:Cd:=.seq (.seq (.seq (.seq (.reg false [mv 76 5,
    bc 77 .lss 76 4]) (BEa)) (BD9)) (BD8)) (BD7)
def BD6:Cd:=.block 2 (.loop (AMt))
def BEp:Cd:=td [100,101,102,103]
def BEq:Cd:=.skip
def BEy:Cd:=.exit 4
def BEo:Cd:=.cond (.t 104) (.seq (td [104]) (BEq)) (.seq (td [104]) (BEy))
def BEt:Cd:=td [107,108,109,110,111,112]
def BEv:Cd:=td [114,115]
def BEu:Cd:=.seq (.reg false [mv 114 6,
    bc 115 .add 114 1,
    mv 6 115]) (BEv)
def BEx:Cd:=.skip
def BEs:Cd:=.cond (.t 113) (.seq (td [113]) (BEu)) (.seq (td [113]) (BEx))
def BEw:Cd:=td [105,106]
def BEr:Cd:=.seq (.reg false [mv 105 7,
    bc 106 .add 105 1,
    mv 7 106]) (BEw)
def BEn:Cd:=.seq (.block 5 (.seq (.seq (.reg false [fa 107 Z3 3 1,
    o_ 108 (.load (.d (.sl (.int .i64))) (.t 107)),
    mv 109 7,
    ix 110 (.sl (.int .i64)) 108 109,
    ld 111 (.int .i64) 110,
    mv 112 4,
    bi 113 .eql 111 112]) (BEt)) (BEs))) (BEr)
def BEm:Cd:=.tidy [] [] [] (some 1)
def AMv:Cd:=.seq (.seq (.seq (.seq (.reg false [mv 100 7,
    fa 101 Z3 3 1,
    o_ 102 (.load (.d (.sl (.int .i64))) (.t 101)),
    le 103 102,
    bi 104 .lss 100 103]) (BEp)) (BEo)) (BEn)) (BEm)
def BEl:Cd:=.block 4 (.loop (AMv))
def BE0:Cd:=td [116,117,118]
def BE2:Cd:=.ret
def BE1:Cd:=.seq (.reg false [o_ 2 (.move (.c .bool false))]) (BE2)
def BE3:Cd:=.skip
def BEz:Cd:=.cond (.t 119) (.seq (td [119]) (BE1)) (.seq (td [119]) (BE3))
def AMu:Cd:=.seq (.seq (.reg false [mv 116 6,
    fa 117 Z3 5 1,
    ld 118 (.int .i64) 117,
    bi 119 .gtr 116 118]) (BE0)) (BEz)
def BEk:Cd:=.seq (.seq (.reg false [ci 7 0]) (BEl)) (AMu)
def AMs:Cd:=.seq (.reg false [ci 6 0]) (BEk)
def BE4:Cd:=td [74,75]
def L8:Cd:=.seq (.reg false [mv 74 4,
    bc 75 .add 74 1,
    mv 4 75]) (BE4)
def BD2:Cd:=.seq (.block 1 (.seq (.seq (.reg false [ci 5 0]) (BD6)) (AMs))) (L8)
def L7:Cd:=.tidy [5,6,7] [] [] (some 1)
def N4:Cd:=.seq (.seq (.seq (.seq (.reg false [mv 71 4,
    mv 72 3,
    bi 73 .lss 71 72]) (BD4)) (BD3)) (BD2)) (L7)
def BD1:Cd:=.block 0 (.loop (N4))
def BFa:Cd:=td [120,121,122,123]
def BFb:Cd:=.skip
def BFj:Cd:=.exit 6
def BE9:Cd:=.cond (.t 124) (.seq (td [124]) (BFb)) (.seq (td [124]) (BFj))
def BFe:Cd:=td [127,128,129,130,131,132,133,134,135,136,137,138,139,140,141,142]
def BFg:Cd:=.ret
def BFf:Cd:=.seq (.reg false [o_ 2 (.move (.c .bool false))]) (BFg)
def BFh:Cd:=.skip
def BFd:Cd:=.cond (.t 143) (.seq (td [143]) (BFf)) (.seq (td [143]) (BFh))
def BFi:Cd:=td [125,126]
def BFc:Cd:=.seq (.reg false [mv 125 8,
    bc 126 .add 125 1,
    mv 8 126]) (BFi)
def BE8:Cd:=.seq (.block 7 (.seq (.seq (.reg false [fa 127 Z3 1 1,
    o_ 128 (.load (.d (.sl (.int .i64))) (.t 127)),
    mv 129 8,
    ix 130 (.sl (.int .i64)) 128 129,
    ld 131 (.int .i64) 130,
    mv 132 3,
    o_ 133 (.call (.f 37) [(.t 131),(.t 132)] [.d .bool] [] false),
    nt 134 133,
    mv 135 134,
    og 136 (.fieldAddr (.d Z3) 2 (.t 1)) 135 false,
    og 137 (.load (.d (.sl (.int .i64))) (.t 136)) 135 false,
    og 138 (.move (.t 8)) 135 false,
    og 139 (.index (.sl (.int .i64)) (.t 137) (.t 138)) 135 false,
    og 140 (.load (.d (.int .i64)) (.t 139)) 135 false,
    og 141 (.call (.f 38) [(.t 140)] [.d .bool] [] false) 135 false,
    og 142 (.not (.t 141)) 135 false,
    o_ 143 (.pick (.t 135) (.c .bool true) (.t 142))]) (BFe)) (BFd))) (BFc)
def BE7:Cd:=.tidy [] [] [] (some 1)
def AMx:Cd:=.seq (.seq (.seq (.seq (.reg false [mv 120 8,
    fa 121 Z3 1 1,
    o_ 122 (.load (.d (.sl (.int .i64))) (.t 121)),
    le 123 122,
    bi 124 .lss 120 123]) (BFa)) (BE9)) (BE8)) (BE7)
def BE6:Cd:=.block 6 (.loop (AMx))
def BFo:Cd:=td [144,145,146,147]
def BFp:Cd:=.skip
def BFx:Cd:=.exit 8
def BFn:Cd:=.cond (.t 148) (.seq (td [148]) (BFp)) (.seq (td [148]) (BFx))
def BFs:Cd:=td [151,152,153,154,155,156,157]
def BFu:Cd:=.ret
def BFt:Cd:=.seq (.reg false [o_ 2 (.move (.c .bool false))]) (BFu)
def BFv:Cd:=.skip
def BFr:Cd:=.cond (.t 158) (.seq (td [158]) (BFt)) (.seq (td [158]) (BFv))
def BFw:Cd:=td [149,150]
def BFq:Cd:=.seq (.reg false [mv 149 9,
    bc 150 .add 149 1,
    mv 9 150]) (BFw)
def BFm:Cd:=.seq (.block 9 (.seq (.seq (.reg false [fa 151 Z3 3 1,
    o_ 152 (.load (.d (.sl (.int .i64))) (.t 151)),
    mv 153 9,
    ix 154 (.sl (.int .i64)) 152 153,
    ld 155 (.int .i64) 154,
    mv 156 3,
    o_ 157 (.call (.f 37) [(.t 155),(.t 156)] [.d .bool] [] false),
    nt 158 157]) (BFs)) (BFr))) (BFq)
def BFl:Cd:=.tidy [] [] [] (some 1)
def AMz:Cd:=.seq (.seq (.seq (.seq (.reg false [mv 144 9,
    fa 145 Z3 3 1,
    o_ 146 (.load (.d (.sl (.int .i64))) (.t 145)),
    le 147 146,
    bi 148 .lss 144 147]) (BFo)) (BFn)) (BFm)) (BFl)
def BFk:Cd:=.block 8 (.loop (AMz))
def BFy:Cd:=.ret
def AMy:Cd:=.seq (.reg false [o_ 2 (.move (.c .bool true))]) (BFy)
def AMw:Cd:=.seq (.seq (.reg false [ci 9 0]) (BFk)) (AMy)
def V6:Cd:=.seq (.seq (.reg false [ci 8 0]) (BE6)) (AMw)
def BRa:Cd:=.seq (.seq (.reg false [ci 4 0]) (BD1)) (V6)
def BQ4:Cd:=.seq (.seq (.seq (.reg false [fa 55 Z3 5 1,
    ld 56 (.int .i64) 55,
    o_ 57 (.call (.f 37) [(.t 56),(.c (.int .i64) (65:Int))] [.d .bool] [] false),
    nt 58 57,
    mv 59 58,
    og 60 (.fieldAddr (.d Z3) 6 (.t 1)) 59 false,
    og 61 (.load (.d (.int .i64)) (.t 60)) 59 false,
    og 62 (.call (.f 37) [(.t 61),(.c (.int .i64) (65:Int))] [.d .bool] [] false) 59 false,
    og 63 (.not (.t 62)) 59 false,
    o_ 64 (.pick (.t 59) (.c .bool true) (.t 63)),
    mv 65 64,
    og 66 (.fieldAddr (.d Z3) 7 (.t 1)) 65 false,
    og 67 (.load (.d (.int .i64)) (.t 66)) 65 false,
    og 68 (.call (.f 37) [(.t 67),(.c (.int .i64) (65:Int))] [.d .bool] [] false) 65 false,
    og 69 (.not (.t 68)) 65 false,
    o_ 70 (.pick (.t 65) (.c .bool true) (.t 69))]) (BDx)) (BDw)) (BRa)
def BQ2:Cd:=.seq (.seq (.seq (.reg false [mv 13 3,
    bc 14 .lss 13 1,
    mv 15 14,
    og 16 (.move (.t 3)) 15 false,
    og 17 (.bin .gtr (.t 16) (.c (.int .i64) (8:Int))) 15 false,
    o_ 18 (.pick (.t 15) (.c .bool true) (.t 17)),
    mv 19 18,
    og 20 (.fieldAddr (.d Z3) 1 (.t 1)) 19 false,
    og 21 (.load (.d (.sl (.int .i64))) (.t 20)) 19 false,
    og 22 (.len (.t 21)) 19 false,
    og 23 (.bin .lss (.t 22) (.c (.int .i64) (1:Int))) 19 false,
    o_ 24 (.pick (.t 19) (.c .bool true) (.t 23)),
    mv 25 24,
    og 26 (.fieldAddr (.d Z3) 1 (.t 1)) 25 false,
    og 27 (.load (.d (.sl (.int .i64))) (.t 26)) 25 false,
    og 28 (.len (.t 27)) 25 false,
    og 29 (.bin .gtr (.t 28) (.c (.int .i64) (6:Int))) 25 false,
    o_ 30 (.pick (.t 25) (.c .bool true) (.t 29)),
    mv 31 30,
    og 32 (.fieldAddr (.d Z3) 2 (.t 1)) 31 false,
    og 33 (.load (.d (.sl (.int .i64))) (.t 32)) 31 false,
    og 34 (.len (.t 33)) 31 false,
    og 35 (.fieldAddr (.d Z3) 1 (.t 1)) 31 false,
    og 36 (.load (.d (.sl (.int .i64))) (.t 35)) 31 false,
    og 37 (.len (.t 36)) 31 false,
    og 38 (.bin .neq (.t 34) (.t 37)) 31 false,
    o_ 39 (.pick (.t 31) (.c .bool true) (.t 38)),
    mv 40 39,
    og 41 (.fieldAddr (.d Z3) 3 (.t 1)) 40 false,
    og 42 (.load (.d (.sl (.int .i64))) (.t 41)) 40 false,
    og 43 (.len (.t 42)) 40 false,
    og 44 (.bin .gtr (.t 43) (.c (.int .i64) (16:Int))) 40 false,
    o_ 45 (.pick (.t 40) (.c .bool true) (.t 44)),
    mv 46 45,
    og 47 (.fieldAddr (.d Z3) 4 (.t 1)) 46 false,
    og 48 (.load (.d (.sl .bool)) (.t 47)) 46 false,
    og 49 (.len (.t 48)) 46 false,
    og 50 (.fieldAddr (.d Z3) 3 (.t 1)) 46 false,
    og 51 (.load (.d (.sl (.int .i64))) (.t 50)) 46 false,
    og 52 (.len (.t 51)) 46 false,
    og 53 (.bin .neq (.t 49) (.t 52)) 46 false,
    o_ 54 (.pick (.t 46) (.c .bool true) (.t 53))]) (BQ6)) (BQ5)) (BQ4)
def BQ1:Cd:=.seq (.seq (.reg false [fa 10 Z3 0 1,
    o_ 11 (.load (.d (.sl (.arr 4 (.int .i64)))) (.t 10)),
    le 12 11,
    mv 3 12]) (BQ3)) (BQ2)
def Zc.fn:Fn:=⟨1,[.tmp 2],.seq (.reg false [bx 1 0 0,
    o_ 2 (.move (.c .bool false))]) (BQ1)⟩
def BRm:Cd:=td [6,7]
def BRn:Cd:=.skip
def BF7:Cd:=.exit 0
def BRl:Cd:=.cond (.t 8) (.seq (td [8]) (BRn)) (.seq (td [8]) (BF7))
def BFz:Cd:=td [9,10]
def BF2:Cd:=td [11]
def BF4:Cd:=.ret
def BF3:Cd:=.seq (.reg false [ci 4 99]) (BF4)
def BF5:Cd:=.skip
def BF1:Cd:=.cond (.t 12) (.seq (td [12]) (BF3)) (.seq (td [12]) (BF5))
def BF6:Cd:=td [13,14,15,16,17,18]
def BF0:Cd:=.seq (.reg false [fa 13 Zb 3 2,
    ld 14 (.sl Za) 13,
    fa 15 Za 1 3,
    ld 16 (.int .i64) 15,
    ix 17 (.sl Za) 14 16,
    ld 18 Za 17,
    sr Za 3 18]) (BF6)
def BRo:Cd:=.seq (.seq (.seq (.reg false [mv 11 5,
    bc 12 .gtr 11 50]) (BF2)) (BF1)) (BF0)
def BRk:Cd:=.block 1 (.seq (.seq (.reg false [mv 9 5,
    bc 10 .add 9 1,
    mv 5 10]) (BFz)) (BRo))
def BRj:Cd:=.tidy [] [] [] (some 2)
def AT3:Cd:=.seq (.seq (.seq (.seq (.reg false [fa 6 Za 0 3,
    ld 7 (.int .i64) 6,
    bc 8 .eql 7 2]) (BRm)) (BRl)) (BRk)) (BRj)
def BF9:Cd:=td [19]
def BF8:Cd:=.ret
def AT2:Cd:=.seq (.seq (.reg false [mv 19 5,
    mv 4 19]) (BF9)) (BF8)
def BRi:Cd:=.seq (.block 0 (.loop (AT3))) (AT2)
def BRh:Cd:=.seq (.reg false [ci 5 0]) (BRi)
def Z6.fn:Fn:=⟨2,[.tmp 4],.seq (.reg false [bx 2 0 0,
    bx 3 1 1,
    ci 4 0]) (BRh)⟩
def BRv:Cd:=td [7,8,9,10]
def BRw:Cd:=.skip
def BGh:Cd:=.exit 0
def BRu:Cd:=.cond (.t 11) (.seq (td [11]) (BRw)) (.seq (td [11]) (BGh))
def BGc:Cd:=td [14,15,16,17,18,19]
def BGe:Cd:=td [21,22]
def BGd:Cd:=.seq (.reg false [mv 21 5,
    bc 22 .add 21 1,
    mv 5 22]) (BGe)
def BGg:Cd:=.skip
def BGb:Cd:=.cond (.t 20) (.seq (td [20]) (BGd)) (.seq (td [20]) (BGg))
def BGf:Cd:=td [12,13]
def BGa:Cd:=.seq (.reg false [mv 12 6,
    bc 13 .add 12 1,
    mv 6 13]) (BGf)
def BRt:Cd:=.seq (.block 1 (.seq (.seq (.reg true [od 14 (.fieldAddr (.d Zb) 3 (.t 2)) [0] [],
    od 15 (.load (.d (.sl Za)) (.t 14)) [0] [],
    mv 16 6,
    ix 17 (.sl Za) 15 16,
    ld 18 Za 17,
    od 19 (.load (.d Za) (.t 3)) [1] [],
    o_ 20 (.eqs Za false (.t 18) (.t 19))]) (BGc)) (BGb))) (BGa)
def BRs:Cd:=.tidy [] [] [] (some 2)
def AT5:Cd:=.seq (.seq (.seq (.seq (.reg false [mv 7 6,
    fa 8 Zb 3 2,
    ld 9 (.sl Za) 8,
    le 10 9,
    bi 11 .lss 7 10]) (BRv)) (BRu)) (BRt)) (BRs)
def BRr:Cd:=.block 0 (.loop (AT5))
def BGj:Cd:=td [23]
def BGi:Cd:=.ret
def AT4:Cd:=.seq (.seq (.reg false [mv 23 5,
    mv 4 23]) (BGj)) (BGi)
def BRq:Cd:=.seq (.seq (.reg false [ci 6 0]) (BRr)) (AT4)
def BRp:Cd:=.seq (.reg false [ci 5 0]) (BRq)
def Z7.fn:Fn:=⟨2,[.tmp 4],.seq (.reg false [bx 2 0 0,
    bx 3 1 1,
    ci 4 0]) (BRp)⟩
def BRz:Cd:=td [5,6,7,8,9,10,11,12,13,14,15,16,17,18]
def BRy:Cd:=.ret
def BRx:Cd:=.seq (.seq (.reg false [fa 5 Zb 0 2,
    fa 6 Z3 5 5,
    ld 7 (.int .i64) 6,
    fa 8 Zb 0 2,
    fa 9 Z3 6 8,
    ld 10 (.int .i64) 9,
    fa 11 Zb 0 2,
    fa 12 Z3 7 11,
    ld 13 (.int .i64) 12,
    o_ 14 (.slice 2 (.int .i64) [(.t 7),(.t 10),(.t 13)]),
    fa 15 Za 0 3,
    ld 16 (.int .i64) 15,
    ix 17 (.sl (.int .i64)) 14 16,
    ld 18 (.int .i64) 17,
    mv 4 18]) (BRz)) (BRy)
def Ys.fn:Fn:=⟨2,[.tmp 4],.seq (.reg false [bx 2 0 0,
    bx 3 1 1,
    ci 4 0]) (BRx)⟩
def BO4:Cd:=td [9,10]
def BO7:Cd:=td [11,12,13,14,15,16,17,18,19,20,21,22,23,24,25,26,27,28,29,30,31,32,33,34,35,36,37,38,39]
def BO9:Cd:=.ret
def BO8:Cd:=.seq (.reg false [o_ 2 (.move (.c .bool false))]) (BO9)
def BPa:Cd:=.skip
def BO6:Cd:=.cond (.t 40) (.seq (td [40]) (BO8)) (.seq (td [40]) (BPa))
def BA4:Cd:=td [41,42,43,44]
def BA5:Cd:=.skip
def BBd:Cd:=.exit 0
def BA3:Cd:=.cond (.t 45) (.seq (td [45]) (BA5)) (.seq (td [45]) (BBd))
def BA8:Cd:=td [48,49,50,51,52,53,54,55,56,57,58,59,60,61,62,63,64,65]
def BBa:Cd:=.ret
def BA9:Cd:=.seq (.reg false [o_ 2 (.move (.c .bool false))]) (BBa)
def BBb:Cd:=.skip
def BA7:Cd:=.cond (.t 66) (.seq (td [66]) (BA9)) (.seq (td [66]) (BBb))
def BBc:Cd:=td [46,47]
def BA6:Cd:=.seq (.reg false [mv 46 4,
    bc 47 .add 46 1,
    mv 4 47]) (BBc)
def BA2:Cd:=.seq (.block 1 (.seq (.seq (.reg true [od 48 (.fieldAddr (.d Zb) 1 (.t 1)) [0] [],
    od 49 (.load (.d (.sl (.int .i64))) (.t 48)) [0] [],
    mv 50 4,
    ix 51 (.sl (.int .i64)) 49 50,
    ld 52 (.int .i64) 51,
    od 53 (.fieldAddr (.d Z3) 0 (.t 3)) [1] [],
    od 54 (.load (.d (.sl (.arr 4 (.int .i64)))) (.t 53)) [1] [],
    le 55 54,
    o_ 56 (.call (.f 37) [(.t 52),(.t 55)] [.d .bool] [] false),
    nt 57 56,
    mv 58 57,
    ogd 59 (.fieldAddr (.d Zb) 2 (.t 1)) 58 false [0],
    ogd 60 (.load (.d (.sl (.int .i64))) (.t 59)) 58 false [0],
    og 61 (.move (.t 4)) 58 false,
    og 62 (.index (.sl (.int .i64)) (.t 60) (.t 61)) 58 false,
    og 63 (.load (.d (.int .i64)) (.t 62)) 58 false,
    og 64 (.call (.f 38) [(.t 63)] [.d .bool] [] false) 58 false,
    og 65 (.not (.t 64)) 58 false,
    o_ 66 (.pick (.t 58) (.c .bool true) (.t 65))]) (BA8)) (BA7))) (BA6)
def BA1:Cd:=.tidy [] [] [] (some 2)
def AMm:Cd:=.seq (.seq (.seq (.seq (.reg false [mv 41 4,
    fa 42 Zb 1 1,
    o_ 43 (.load (.d (.sl (.int .i64))) (.t 42)),
    le 44 43,
    bi 45 .lss 41 44]) (BA4)) (BA3)) (BA2)) (BA1)
def BA0:Cd:=.block 0 (.loop (AMm))
def BBi:Cd:=td [67,68,69,70]
def BBj:Cd:=.skip
def BBv:Cd:=.exit 2
def BBh:Cd:=.cond (.t 71) (.seq (td [71]) (BBj)) (.seq (td [71]) (BBv))
def BBm:Cd:=td [74,75,76,77,78]
def BBo:Cd:=td [79,80,81,82,83,84,85,86,87,88,89,90,91,92,93,94,95,96,97,98,99,100,101,102,103,104,105,106,107,108,109,110,111,112,113,114,115,116,117,118,119,120,121,122,123]
def BBq:Cd:=td [124]
def BBu:Cd:=.ret
def BBt:Cd:=.seq (.reg false [o_ 2 (.move (.c .bool false))]) (BBu)
def BBr:Cd:=.skip
def BBp:Cd:=.cond (.t 125) (.seq (td [125]) (BBt)) (.seq (td [125]) (BBr))
def BBn:Cd:=.seq (.seq (.reg false [mv 124 7,
    nt 125 124]) (BBq)) (BBp)
def BBl:Cd:=.seq (.seq (.reg false [fa 79 Za 0 6,
    ld 80 (.int .i64) 79,
    bc 81 .eql 80 0,
    mv 82 81,
    og 83 (.fieldAddr (.d Za) 1 (.t 6)) 82 true,
    og 84 (.load (.d (.int .i64)) (.t 83)) 82 true,
    og 85 (.fieldAddr (.d Z3) 0 (.t 3)) 82 true,
    og 86 (.load (.d (.sl (.arr 4 (.int .i64)))) (.t 85)) 82 true,
    og 87 (.len (.t 86)) 82 true,
    og 88 (.call (.f 37) [(.t 84),(.t 87)] [.d .bool] [] false) 82 true,
    o_ 89 (.pick (.t 82) (.t 88) (.c .bool false)),
    mv 90 89,
    og 91 (.fieldAddr (.d Za) 0 (.t 6)) 90 false,
    og 92 (.load (.d (.int .i64)) (.t 91)) 90 false,
    og 93 (.bin .eql (.t 92) (.c (.int .i64) (1:Int))) 90 false,
    og 94 (.move (.t 93)) 90 false,
    og 95 (.fieldAddr (.d Za) 1 (.t 6)) 94 true,
    og 96 (.load (.d (.int .i64)) (.t 95)) 94 true,
    og 97 (.fieldAddr (.d Z3) 1 (.t 3)) 94 true,
    og 98 (.load (.d (.sl (.int .i64))) (.t 97)) 94 true,
    og 99 (.len (.t 98)) 94 true,
    og 100 (.call (.f 37) [(.t 96),(.t 99)] [.d .bool] [] false) 94 true,
    og 101 (.pick (.t 94) (.t 100) (.c .bool false)) 90 false,
    o_ 102 (.pick (.t 90) (.c .bool true) (.t 101)),
    mv 103 102,
    og 104 (.fieldAddr (.d Za) 0 (.t 6)) 103 false,
    og 105 (.load (.d (.int .i64)) (.t 104)) 103 false,
    og 106 (.bin .eql (.t 105) (.c (.int .i64) (2:Int))) 103 false,
    og 107 (.move (.t 106)) 103 false,
    og 108 (.fieldAddr (.d Za) 1 (.t 6)) 107 true,
    og 109 (.load (.d (.int .i64)) (.t 108)) 107 true,
    og 110 (.fieldAddr (.d Z3) 3 (.t 3)) 107 true,
    og 111 (.load (.d (.sl (.int .i64))) (.t 110)) 107 true,
    og 112 (.len (.t 111)) 107 true,
    og 113 (.call (.f 37) [(.t 109),(.t 112)] [.d .bool] [] false) 107 true,
    og 114 (.pick (.t 107) (.t 113) (.c .bool false)) 103 false,
    og 115 (.move (.t 114)) 103 false,
    og 116 (.fieldAddr (.d Z3) 4 (.t 3)) 115 true,
    og 117 (.load (.d (.sl .bool)) (.t 116)) 115 true,
    og 118 (.fieldAddr (.d Za) 1 (.t 6)) 115 true,
    og 119 (.load (.d (.int .i64)) (.t 118)) 115 true,
    og 120 (.index (.sl .bool) (.t 117) (.t 119)) 115 true,
    og 121 (.load (.d .bool) (.t 120)) 115 true,
    og 122 (.pick (.t 115) (.t 121) (.c .bool false)) 103 false,
    o_ 123 (.pick (.t 103) (.c .bool true) (.t 122)),
    mv 7 123]) (BBo)) (BBn)
def BBs:Cd:=td [72,73]
def BBk:Cd:=.seq (.reg false [mv 72 5,
    bc 73 .add 72 1,
    mv 5 73]) (BBs)
def BBg:Cd:=.seq (.block 3 (.seq (.seq (.reg false [fa 74 Zb 3 1,
    ld 75 (.sl Za) 74,
    mv 76 5,
    ix 77 (.sl Za) 75 76,
    ld 78 Za 77,
    nb 6 2 Za,
    sr Za 6 78]) (BBm)) (BBl))) (BBk)
def BBf:Cd:=.tidy [6,7] [] [] (some 2)
def AMo:Cd:=.seq (.seq (.seq (.seq (.reg false [mv 67 5,
    fa 68 Zb 3 1,
    ld 69 (.sl Za) 68,
    le 70 69,
    bi 71 .lss 67 70]) (BBi)) (BBh)) (BBg)) (BBf)
def BBe:Cd:=.block 2 (.loop (AMo))
def BB0:Cd:=td [126,127,128,129]
def BB1:Cd:=.skip
def BB9:Cd:=.exit 4
def BBz:Cd:=.cond (.t 130) (.seq (td [130]) (BB1)) (.seq (td [130]) (BB9))
def BB4:Cd:=td [133,134,135,136,137,138,139,140,141,142,143,144,145,146,147,148,149,150,151,152,153,154,155,156]
def BB6:Cd:=.ret
def BB5:Cd:=.seq (.reg false [o_ 2 (.move (.c .bool false))]) (BB6)
def BB7:Cd:=.skip
def BB3:Cd:=.cond (.t 157) (.seq (td [157]) (BB5)) (.seq (td [157]) (BB7))
def BB8:Cd:=td [131,132]
def BB2:Cd:=.seq (.reg false [mv 131 8,
    bc 132 .add 131 1,
    mv 8 132]) (BB8)
def BBy:Cd:=.seq (.block 5 (.seq (.seq (.reg true [od 133 (.load (.d Zb) (.t 1)) [0] [],
    od 134 (.fieldAddr (.d Zb) 3 (.t 1)) [0] [],
    od 135 (.load (.d (.sl Za)) (.t 134)) [0] [],
    mv 136 8,
    ix 137 (.sl Za) 135 136,
    ld 138 Za 137,
    o_ 139 (.call (.f 39) [(.t 133),(.t 138)] [.d (.int .i64)] [] false),
    bc 140 .gtr 139 4,
    mv 141 140,
    ogd 142 (.load (.d Zb) (.t 1)) 141 false [0],
    ogd 143 (.fieldAddr (.d Zb) 3 (.t 1)) 141 false [0],
    ogd 144 (.load (.d (.sl Za)) (.t 143)) 141 false [0],
    og 145 (.move (.t 8)) 141 false,
    og 146 (.index (.sl Za) (.t 144) (.t 145)) 141 false,
    og 147 (.load (.d Za) (.t 146)) 141 false,
    og 148 (.call (.f 40) [(.t 142),(.t 147)] [.d (.int .i64)] [] false) 141 false,
    ogd 149 (.load (.d Zb) (.t 1)) 141 false [0],
    ogd 150 (.fieldAddr (.d Zb) 3 (.t 1)) 141 false [0],
    ogd 151 (.load (.d (.sl Za)) (.t 150)) 141 false [0],
    og 152 (.move (.t 8)) 141 false,
    og 153 (.index (.sl Za) (.t 151) (.t 152)) 141 false,
    og 154 (.load (.d Za) (.t 153)) 141 false,
    og 155 (.call (.f 41) [(.t 149),(.t 154)] [.d (.int .i64)] [] false) 141 false,
    og 156 (.bin .gtr (.t 148) (.t 155)) 141 false,
    o_ 157 (.pick (.t 141) (.c .bool true) (.t 156))]) (BB4)) (BB3))) (BB2)
def BBx:Cd:=.tidy [] [] [] (some 2)
def AMq:Cd:=.seq (.seq (.seq (.seq (.reg false [mv 126 8,
    fa 127 Zb 3 1,
    ld 128 (.sl Za) 127,
    le 129 128,
    bi 130 .lss 126 129]) (BB0)) (BBz)) (BBy)) (BBx)
def BBw:Cd:=.block 4 (.loop (AMq))
def BCa:Cd:=.ret
def AMp:Cd:=.seq (.reg false [o_ 2 (.move (.c .bool true))]) (BCa)
def AMn:Cd:=.seq (.seq (.reg false [ci 8 0]) (BBw)) (AMp)
def ATu:Cd:=.seq (.seq (.reg false [ci 5 0]) (BBe)) (AMn)
def BO5:Cd:=.seq (.seq (.reg false [ci 4 0]) (BA0)) (ATu)
def BO3:Cd:=.seq (.seq (.seq (.reg false [ld 11 Z3 3,
    o_ 12 (.call (.f 36) [(.t 11)] [.d .bool] [] false),
    nt 13 12,
    mv 14 13,
    og 15 (.fieldAddr (.d Zb) 1 (.t 1)) 14 false,
    og 16 (.load (.d (.sl (.int .i64))) (.t 15)) 14 false,
    og 17 (.len (.t 16)) 14 false,
    og 18 (.fieldAddr (.d Z3) 1 (.t 3)) 14 false,
    og 19 (.load (.d (.sl (.int .i64))) (.t 18)) 14 false,
    og 20 (.len (.t 19)) 14 false,
    og 21 (.bin .neq (.t 17) (.t 20)) 14 false,
    o_ 22 (.pick (.t 14) (.c .bool true) (.t 21)),
    mv 23 22,
    og 24 (.fieldAddr (.d Zb) 2 (.t 1)) 23 false,
    og 25 (.load (.d (.sl (.int .i64))) (.t 24)) 23 false,
    og 26 (.len (.t 25)) 23 false,
    og 27 (.fieldAddr (.d Z3) 1 (.t 3)) 23 false,
    og 28 (.load (.d (.sl (.int .i64))) (.t 27)) 23 false,
    og 29 (.len (.t 28)) 23 false,
    og 30 (.bin .neq (.t 26) (.t 29)) 23 false,
    o_ 31 (.pick (.t 23) (.c .bool true) (.t 30)),
    mv 32 31,
    og 33 (.fieldAddr (.d Zb) 3 (.t 1)) 32 false,
    og 34 (.load (.d (.sl Za)) (.t 33)) 32 false,
    og 35 (.len (.t 34)) 32 false,
    og 36 (.fieldAddr (.d Z3) 3 (.t 3)) 32 false,
    og 37 (.load (.d (.sl (.int .i64))) (.t 36)) 32 false,
    og 38 (.len (.t 37)) 32 false,
    og 39 (.bin .neq (.t 35) (.t 38)) 32 false,
    o_ 40 (.pick (.t 32) (.c .bool true) (.t 39))]) (BO7)) (BO6)) (BO5)
def BO2:Cd:=.seq (.seq (.reg false [fa 9 Zb 0 1,
    ld 10 Z3 9,
    nb 3 1 Z3,
    sr Z3 3 10]) (BO4)) (BO3)
def Zg.fn:Fn:=⟨1,[.tmp 2],.seq (.reg false [bx 1 0 0,
    o_ 2 (.move (.c .bool false))]) (BO2)⟩
def CBa:Cd:=td [3,4,5,6,7,8]
def CA9:Cd:=.ret
def CA8:Cd:=.seq (.seq (.reg false [ld 3 Zb 1,
    o_ 4 (.call (.f 21) [(.t 3)] [.d .bool] [] false),
    mv 5 4,
    og 6 (.load (.d Zb) (.t 1)) 5 true,
    og 7 (.call (.f 22) [(.t 6)] [.d .bool] [] false) 5 true,
    o_ 8 (.pick (.t 5) (.t 7) (.c .bool false)),
    mv 2 8]) (CBa)) (CA9)
def Yk.fn:Fn:=⟨1,[.tmp 2],.seq (.reg false [bx 1 0 0,
    o_ 2 (.move (.c .bool false))]) (CA8)⟩
def CBd:Cd:=td [3,4,5,6,7,8,9,10,11,12]
def CBc:Cd:=.ret
def CBb:Cd:=.seq (.seq (.reg false [fa 3 Zz 5 1,
    o_ 4 (.load (.d (.sl (.int .i64))) (.t 3)),
    le 5 4,
    bc 6 .leq 5 40,
    mv 7 6,
    og 8 (.fieldAddr (.d Zz) 7 (.t 1)) 7 true,
    og 9 (.load (.d (.sl (.int .i64))) (.t 8)) 7 true,
    og 10 (.len (.t 9)) 7 true,
    og 11 (.bin .leq (.t 10) (.c (.int .i64) (40:Int))) 7 true,
    o_ 12 (.pick (.t 7) (.t 11) (.c .bool false)),
    mv 2 12]) (CBd)) (CBc)
def Yi.fn:Fn:=⟨1,[.tmp 2],.seq (.reg false [bx 1 0 0,
    o_ 2 (.move (.c .bool false))]) (CBb)⟩
def BPe:Cd:=td [5]
def BPh:Cd:=td [7,8]
def BPg:Cd:=.ret
def BPf:Cd:=.seq (.seq (.reg false [mv 7 0,
    bc 8 .eql 7 0,
    mv 4 8]) (BPh)) (BPg)
def BPi:Cd:=.skip
def BPd:Cd:=.cond (.t 6) (.seq (td [6]) (BPf)) (.seq (td [6]) (BPi))
def BPk:Cd:=td [9,10,11,12,13,14]
def BPj:Cd:=.ret
def BPc:Cd:=.seq (.seq (.reg false [mv 9 0,
    bc 10 .geq 9 0,
    mv 11 10,
    og 12 (.move (.t 0)) 11 true,
    og 13 (.bin .leq (.t 12) (.c (.int .i64) (1073741824:Int))) 11 true,
    o_ 14 (.pick (.t 11) (.t 13) (.c .bool false)),
    mv 4 14]) (BPk)) (BPj)
def BPb:Cd:=.seq (.seq (.seq (.reg false [mv 5 1,
    nt 6 5]) (BPe)) (BPd)) (BPc)
def Zf.fn:Fn:=⟨2,[.tmp 4],.seq (.reg false [o_ 4 (.move (.c .bool false))]) (BPb)⟩
def BPo:Cd:=td [6]
def BPr:Cd:=td [8,9,10]
def BPq:Cd:=.ret
def BPp:Cd:=.seq (.seq (.reg false [mv 8 0,
    le 9 8,
    bc 10 .eql 9 0,
    mv 4 10]) (BPr)) (BPq)
def BPs:Cd:=.skip
def BPn:Cd:=.cond (.t 7) (.seq (td [7]) (BPp)) (.seq (td [7]) (BPs))
def BCe:Cd:=td [11,12,13]
def BCf:Cd:=.skip
def BCn:Cd:=.exit 0
def BCd:Cd:=.cond (.t 14) (.seq (td [14]) (BCf)) (.seq (td [14]) (BCn))
def BCi:Cd:=td [17,18,19,20,21]
def BCk:Cd:=.ret
def BCj:Cd:=.seq (.reg false [o_ 4 (.move (.c .bool false))]) (BCk)
def BCl:Cd:=.skip
def BCh:Cd:=.cond (.t 22) (.seq (td [22]) (BCj)) (.seq (td [22]) (BCl))
def BCm:Cd:=td [15,16]
def BCg:Cd:=.seq (.reg false [mv 15 5,
    bc 16 .add 15 1,
    mv 5 16]) (BCm)
def BCc:Cd:=.seq (.block 1 (.seq (.seq (.reg false [mv 17 0,
    mv 18 5,
    ix 19 (.sl (.int .i64)) 17 18,
    ld 20 (.int .i64) 19,
    o_ 21 (.call (.f 23) [(.t 20),(.c .bool true)] [.d .bool] [] false),
    nt 22 21]) (BCi)) (BCh))) (BCg)
def BCb:Cd:=.tidy [] [] [] (some 0)
def AMr:Cd:=.seq (.seq (.seq (.seq (.reg false [mv 11 5,
    mv 12 0,
    le 13 12,
    bi 14 .lss 11 13]) (BCe)) (BCd)) (BCc)) (BCb)
def BPt:Cd:=.block 0 (.loop (AMr))
def BCp:Cd:=td [23,24,25]
def BCo:Cd:=.ret
def ATv:Cd:=.seq (.seq (.reg false [mv 23 0,
    le 24 23,
    bc 25 .leq 24 16,
    mv 4 25]) (BCp)) (BCo)
def BPm:Cd:=.seq (.seq (.reg false [ci 5 0]) (BPt)) (ATv)
def BPl:Cd:=.seq (.seq (.seq (.reg false [mv 6 1,
    nt 7 6]) (BPo)) (BPn)) (BPm)
def Zh.fn:Fn:=⟨2,[.tmp 4],.seq (.reg false [o_ 4 (.move (.c .bool false))]) (BPl)⟩
def CBg:Cd:=td [4,5]
def CBj:Cd:=td [6,7,8,9,10,11,12,13,14,15,16,17,18,19,20,21,22,23,24,25,26,27,28,29]
def CBl:Cd:=.ret
def CBk:Cd:=.seq (.reg false [o_ 2 (.move (.c .bool false))]) (CBl)
def CBm:Cd:=.skip
def CBi:Cd:=.cond (.t 30) (.seq (td [30]) (CBk)) (.seq (td [30]) (CBm))
def BYo:Cd:=td [31,32,33,34,35,36,37,38,39,40,41,42,43,44,45,46,47,48,49,50,51,52,53,54,55,56,57,58,59,60,61,62,63,64,65,66,67,68,69,70,71,72,73,74,75,76,77,78,79,80,81,82,83,84,85,86,87,88,89,90,91,92,93]
def CBn:Cd:=.ret
def CBh:Cd:=.seq (.seq (.reg false [fa 31 Zz 2 1,
    ld 32 (.int .i64) 31,
    mv 33 3,
    bc 34 .geq 33 3,
    mv 35 34,
    og 36 (.move (.t 3)) 35 true,
    og 37 (.bin .leq (.t 36) (.c (.int .i64) (7:Int))) 35 true,
    o_ 38 (.pick (.t 35) (.t 37) (.c .bool false)),
    o_ 39 (.call (.f 23) [(.t 32),(.t 38)] [.d .bool] [] false),
    mv 40 39,
    og 41 (.fieldAddr (.d Zz) 3 (.t 1)) 40 true,
    og 42 (.load (.d (.int .i64)) (.t 41)) 40 true,
    og 43 (.move (.t 3)) 40 true,
    og 44 (.bin .eql (.t 43) (.c (.int .i64) (5:Int))) 40 true,
    og 45 (.move (.t 44)) 40 true,
    og 46 (.move (.t 3)) 45 false,
    og 47 (.bin .eql (.t 46) (.c (.int .i64) (6:Int))) 45 false,
    og 48 (.pick (.t 45) (.c .bool true) (.t 47)) 40 true,
    og 49 (.call (.f 23) [(.t 42),(.t 48)] [.d .bool] [] false) 40 true,
    o_ 50 (.pick (.t 40) (.t 49) (.c .bool false)),
    mv 51 50,
    og 52 (.fieldAddr (.d Zz) 4 (.t 1)) 51 true,
    og 53 (.load (.d (.int .i64)) (.t 52)) 51 true,
    og 54 (.move (.t 3)) 51 true,
    og 55 (.bin .eql (.t 54) (.c (.int .i64) (2:Int))) 51 true,
    og 56 (.move (.t 55)) 51 true,
    og 57 (.move (.t 3)) 56 false,
    og 58 (.bin .eql (.t 57) (.c (.int .i64) (7:Int))) 56 false,
    og 59 (.pick (.t 56) (.c .bool true) (.t 58)) 51 true,
    og 60 (.move (.t 59)) 51 true,
    og 61 (.move (.t 3)) 60 false,
    og 62 (.bin .eql (.t 61) (.c (.int .i64) (8:Int))) 60 false,
    og 63 (.pick (.t 60) (.c .bool true) (.t 62)) 51 true,
    og 64 (.call (.f 23) [(.t 53),(.t 63)] [.d .bool] [] false) 51 true,
    o_ 65 (.pick (.t 51) (.t 64) (.c .bool false)),
    mv 66 65,
    og 67 (.fieldAddr (.d Zz) 6 (.t 1)) 66 true,
    og 68 (.load (.d (.int .i64)) (.t 67)) 66 true,
    og 69 (.move (.t 3)) 66 true,
    og 70 (.bin .eql (.t 69) (.c (.int .i64) (8:Int))) 66 true,
    og 71 (.call (.f 23) [(.t 68),(.t 70)] [.d .bool] [] false) 66 true,
    o_ 72 (.pick (.t 66) (.t 71) (.c .bool false)),
    mv 73 72,
    og 74 (.fieldAddr (.d Zz) 8 (.t 1)) 73 true,
    og 75 (.load (.d (.int .i64)) (.t 74)) 73 true,
    og 76 (.move (.t 3)) 73 true,
    og 77 (.bin .eql (.t 76) (.c (.int .i64) (8:Int))) 73 true,
    og 78 (.call (.f 23) [(.t 75),(.t 77)] [.d .bool] [] false) 73 true,
    o_ 79 (.pick (.t 73) (.t 78) (.c .bool false)),
    mv 80 79,
    og 81 (.fieldAddr (.d Zz) 5 (.t 1)) 80 true,
    og 82 (.load (.d (.sl (.int .i64))) (.t 81)) 80 true,
    og 83 (.move (.t 3)) 80 true,
    og 84 (.bin .eql (.t 83) (.c (.int .i64) (8:Int))) 80 true,
    og 85 (.call (.f 24) [(.t 82),(.t 84)] [.d .bool] [] false) 80 true,
    o_ 86 (.pick (.t 80) (.t 85) (.c .bool false)),
    mv 87 86,
    og 88 (.fieldAddr (.d Zz) 7 (.t 1)) 87 true,
    og 89 (.load (.d (.sl (.int .i64))) (.t 88)) 87 true,
    og 90 (.move (.t 3)) 87 true,
    og 91 (.bin .eql (.t 90) (.c (.int .i64) (8:Int))) 87 true,
    og 92 (.call (.f 24) [(.t 89),(.t 91)] [.d .bool] [] false) 87 true,
    o_ 93 (.pick (.t 87) (.t 92) (.c .bool false)),
    mv 2 93]) (BYo)) (CBn)
def CBf:Cd:=.seq (.seq (.seq (.reg false [mv 6 3,
    bc 7 .lss 6 1,
    mv 8 7,
    og 9 (.move (.t 3)) 8 false,
    og 10 (.bin .gtr (.t 9) (.c (.int .i64) (10:Int))) 8 false,
    o_ 11 (.pick (.t 8) (.c .bool true) (.t 10)),
    mv 12 11,
    og 13 (.fieldAddr (.d Zz) 1 (.t 1)) 12 false,
    og 14 (.load (.d (.int .i64)) (.t 13)) 12 false,
    og 15 (.bin .lss (.t 14) (.c (.int .i64) (0:Int))) 12 false,
    o_ 16 (.pick (.t 12) (.c .bool true) (.t 15)),
    mv 17 16,
    og 18 (.fieldAddr (.d Zz) 1 (.t 1)) 17 false,
    og 19 (.load (.d (.int .i64)) (.t 18)) 17 false,
    og 20 (.bin .gtr (.t 19) (.c (.int .i64) (3:Int))) 17 false,
    o_ 21 (.pick (.t 17) (.c .bool true) (.t 20)),
    mv 22 21,
    og 23 (.fieldAddr (.d Zz) 1 (.t 1)) 22 false,
    og 24 (.load (.d (.int .i64)) (.t 23)) 22 false,
    og 25 (.bin .neq (.t 24) (.c (.int .i64) (0:Int))) 22 false,
    og 26 (.move (.t 25)) 22 false,
    og 27 (.move (.t 3)) 26 true,
    og 28 (.bin .gtr (.t 27) (.c (.int .i64) (2:Int))) 26 true,
    og 29 (.pick (.t 26) (.t 28) (.c .bool false)) 22 false,
    o_ 30 (.pick (.t 22) (.c .bool true) (.t 29))]) (CBj)) (CBi)) (CBh)
def CBe:Cd:=.seq (.seq (.reg false [fa 4 Zz 0 1,
    ld 5 (.int .i64) 4,
    mv 3 5]) (CBg)) (CBf)
def Ye.fn:Fn:=⟨1,[.tmp 2],.seq (.reg false [bx 1 0 0,
    o_ 2 (.move (.c .bool false))]) (CBe)⟩
def BWo:Cd:=td [5,6,7,8,9,10,11]
def BWq:Cd:=.ret
def BWp:Cd:=.seq (.reg false [o_ 4 (.move (.c .str (⟨#[]⟩:ByteArray)))]) (BWq)
def BWr:Cd:=.skip
def BWn:Cd:=.cond (.t 12) (.seq (td [12]) (BWp)) (.seq (td [12]) (BWr))
def BWt:Cd:=td [13,14,15,16]
def BWs:Cd:=.ret
def BWm:Cd:=.seq (.seq (.reg false [mv 13 0,
    mv 14 1,
    ix 15 (.sl .str) 13 14,
    ld 16 .str 15,
    mv 4 16]) (BWt)) (BWs)
def BWl:Cd:=.seq (.seq (.seq (.reg false [mv 5 1,
    bc 6 .lss 5 0,
    mv 7 6,
    og 8 (.move (.t 1)) 7 false,
    og 9 (.move (.t 0)) 7 false,
    og 10 (.len (.t 9)) 7 false,
    og 11 (.bin .geq (.t 8) (.t 10)) 7 false,
    o_ 12 (.pick (.t 7) (.c .bool true) (.t 11))]) (BWo)) (BWn)) (BWm)
def Hd.fn:Fn:=⟨2,[.tmp 4],.seq (.reg false [o_ 4 (.move (.c .str (⟨#[]⟩:ByteArray)))]) (BWl)⟩
def BR2:Cd:=td [3,4,5]
def BR1:Cd:=.ret
def BR0:Cd:=.seq (.seq (.reg false [o_ 3 (.slicearr 11 .str (.g 0)),
    mv 4 0,
    o_ 5 (.call (.f 77) [(.t 3),(.t 4)] [.d .str] [] false),
    mv 2 5]) (BR2)) (BR1)
def Hw.fn:Fn:=⟨1,[.tmp 2],.seq (.reg false [o_ 2 (.move (.c .str (⟨#[]⟩:ByteArray)))]) (BR0)⟩
def BR8:Cd:=td [4,5,6]
def BSb:Cd:=td [7]
def BSd:Cd:=td [10]
def BSf:Cd:=td [11,12,13]
def BSe:Cd:=.seq (.reg false [fa 11 Zz 1 1,
    ld 12 (.int .i64) 11,
    fa 13 Zz 1 3,
    sr (.int .i64) 13 12]) (BSf)
def BGo:Cd:=td [15]
def BGq:Cd:=td [16,17,18,19,20,21]
def BGp:Cd:=.seq (.reg true [od 16 (.fieldAddr (.d Zz) 4 (.t 1)) [0] [],
    od 17 (.load (.d (.int .i64)) (.t 16)) [0] [],
    od 18 (.fieldAddr (.d Zz) 1 (.t 1)) [0] [],
    od 19 (.load (.d (.int .i64)) (.t 18)) [0] [],
    od 20 (.fieldAddr (.d Zz) 4 (.t 3)) [2] [],
    ⟨none,.store (.d (.int .i64)) (.t 20) (.t 17),none,[],[2]⟩,
    od 21 (.fieldAddr (.d Zz) 1 (.t 3)) [2] [],
    ⟨none,.store (.d (.int .i64)) (.t 21) (.t 19),none,[],[2]⟩]) (BGq)
def BGu:Cd:=td [23]
def BHb:Cd:=td [24]
def BGt:Cd:=.cond (.t 22) (.skip) (.seq (.reg false [bc 24 .eql 8 4,
    mv 22 24]) (BHb))
def BGv:Cd:=td [25,26,27]
def BGy:Cd:=td [29]
def BHa:Cd:=td [30]
def BGx:Cd:=.cond (.t 28) (.skip) (.seq (.reg false [bc 30 .eql 8 6,
    mv 28 30]) (BHa))
def BGz:Cd:=td [31,32,33,34,35,36]
def BG1:Cd:=td [38]
def BG3:Cd:=td [39,40,41,42,43,44]
def BG2:Cd:=.seq (.reg true [od 39 (.fieldAddr (.d Zz) 2 (.t 1)) [0] [],
    od 40 (.load (.d (.int .i64)) (.t 39)) [0] [],
    od 41 (.fieldAddr (.d Zz) 4 (.t 1)) [0] [],
    od 42 (.load (.d (.int .i64)) (.t 41)) [0] [],
    od 43 (.fieldAddr (.d Zz) 2 (.t 3)) [2] [],
    ⟨none,.store (.d (.int .i64)) (.t 43) (.t 40),none,[],[2]⟩,
    od 44 (.fieldAddr (.d Zz) 4 (.t 3)) [2] [],
    ⟨none,.store (.d (.int .i64)) (.t 44) (.t 42),none,[],[2]⟩]) (BG3)
def BG6:Cd:=td [46]
def BG8:Cd:=td [47,48,49,50,51,52,53,54,55,56,57,58,59,60,61]
def BG7:Cd:=.seq (.reg true [od 47 (.fieldAddr (.d Zz) 4 (.t 1)) [0] [],
    od 48 (.load (.d (.int .i64)) (.t 47)) [0] [],
    od 49 (.fieldAddr (.d Zz) 5 (.t 1)) [0] [],
    od 50 (.load (.d (.sl (.int .i64))) (.t 49)) [0] [],
    od 51 (.fieldAddr (.d Zz) 6 (.t 1)) [0] [],
    od 52 (.load (.d (.int .i64)) (.t 51)) [0] [],
    od 53 (.fieldAddr (.d Zz) 7 (.t 1)) [0] [],
    od 54 (.load (.d (.sl (.int .i64))) (.t 53)) [0] [],
    od 55 (.fieldAddr (.d Zz) 8 (.t 1)) [0] [],
    od 56 (.load (.d (.int .i64)) (.t 55)) [0] [],
    od 57 (.fieldAddr (.d Zz) 4 (.t 3)) [2] [],
    ⟨none,.store (.d (.int .i64)) (.t 57) (.t 48),none,[],[2]⟩,
    od 58 (.fieldAddr (.d Zz) 5 (.t 3)) [2] [],
    ⟨none,.store (.d (.sl (.int .i64))) (.t 58) (.t 50),none,[],[2]⟩,
    od 59 (.fieldAddr (.d Zz) 6 (.t 3)) [2] [],
    ⟨none,.store (.d (.int .i64)) (.t 59) (.t 52),none,[],[2]⟩,
    od 60 (.fieldAddr (.d Zz) 7 (.t 3)) [2] [],
    ⟨none,.store (.d (.sl (.int .i64))) (.t 60) (.t 54),none,[],[2]⟩,
    od 61 (.fieldAddr (.d Zz) 8 (.t 3)) [2] [],
    ⟨none,.store (.d (.int .i64)) (.t 61) (.t 56),none,[],[2]⟩]) (BG8)
def BG9:Cd:=.skip
def BG5:Cd:=.cond (.t 45) (.seq (td [45]) (BG7)) (.seq (td [45]) (BG9))
def BG4:Cd:=.seq (.seq (.reg false [bc 46 .eql 8 8,
    mv 45 46]) (BG6)) (BG5)
def BG0:Cd:=.cond (.t 37) (.seq (td [37]) (BG2)) (.seq (td [37]) (BG4))
def BGw:Cd:=.cond (.t 28) (.seq (.reg true [od 31 (.fieldAddr (.d Zz) 2 (.t 1)) [0] [],
    od 32 (.load (.d (.int .i64)) (.t 31)) [0] [],
    od 33 (.fieldAddr (.d Zz) 3 (.t 1)) [0] [],
    od 34 (.load (.d (.int .i64)) (.t 33)) [0] [],
    od 35 (.fieldAddr (.d Zz) 2 (.t 3)) [2] [],
    ⟨none,.store (.d (.int .i64)) (.t 35) (.t 32),none,[],[2]⟩,
    od 36 (.fieldAddr (.d Zz) 3 (.t 3)) [2] [],
    ⟨none,.store (.d (.int .i64)) (.t 36) (.t 34),none,[],[2]⟩]) (BGz)) (.seq (.seq (.reg false [bc 38 .eql 8 7,
    mv 37 38]) (BG1)) (BG0))
def BGs:Cd:=.cond (.t 22) (.seq (.reg false [fa 25 Zz 2 1,
    ld 26 (.int .i64) 25,
    fa 27 Zz 2 3,
    sr (.int .i64) 27 26]) (BGv)) (.seq (.seq (.seq (.reg false [bc 29 .eql 8 5,
    mv 28 29]) (BGy)) (BGx)) (BGw))
def BGr:Cd:=.seq (.seq (.seq (.reg false [bc 23 .eql 8 3,
    mv 22 23]) (BGu)) (BGt)) (BGs)
def BGn:Cd:=.cond (.t 14) (.seq (td [14]) (BGp)) (.seq (td [14]) (BGr))
def BGm:Cd:=.seq (.seq (.reg false [bc 15 .eql 8 2,
    mv 14 15]) (BGo)) (BGn)
def BSc:Cd:=.cond (.t 9) (.seq (td [9]) (BSe)) (.seq (td [9]) (BGm))
def BSa:Cd:=.block 0 (.seq (.seq (.reg false [bc 10 .eql 8 1,
    mv 9 10]) (BSd)) (BSc))
def BGl:Cd:=td [62]
def BGk:Cd:=.ret
def BR9:Cd:=.seq (.seq (.reg false [ld 62 Zz 3,
    sr Zz 2 62]) (BGl)) (BGk)
def BR7:Cd:=.seq (.seq (.seq (.reg false [fa 7 Zz 0 1,
    ld 8 (.int .i64) 7]) (BSb)) (BSa)) (BR9)
def BR6:Cd:=.seq (.seq (.reg false [fa 4 Zz 0 1,
    ld 5 (.int .i64) 4,
    o_ 6 (.build Zz [(0,(.t 5))] []),
    nb 3 2 Zz,
    sr Zz 3 6]) (BR8)) (BR7)
def Qw.fn:Fn:=⟨1,[.cell 2 (.d Zz)],.seq (.reg false [bx 1 0 0,
    nb 2 1 Zz]) (BR6)⟩
def BWw:Cd:=td [3,4,5,6,7,8,9,10,11,12,13,14,15,16,17]
def BWv:Cd:=.ret
def BWu:Cd:=.seq (.seq (.reg false [fa 3 Zz 0 1,
    ld 4 (.int .i64) 3,
    fa 5 Zz 1 1,
    ld 6 (.int .i64) 5,
    fa 7 Zz 2 1,
    ld 8 (.int .i64) 7,
    fa 9 Zz 3 1,
    ld 10 (.int .i64) 9,
    fa 11 Zz 4 1,
    ld 12 (.int .i64) 11,
    fa 13 Zz 6 1,
    ld 14 (.int .i64) 13,
    fa 15 Zz 8 1,
    ld 16 (.int .i64) 15,
    o_ 17 (.build U4 [(0,(.t 4)),(1,(.t 6)),(2,(.t 8)),(3,(.t 10)),(4,(.t 12)),(5,(.t 14)),(6,(.t 16))] []),
    sr U4 2 17]) (BWw)) (BWv)
def U8.fn:Fn:=⟨1,[.cell 2 (.d U4)],.seq (.reg false [bx 1 0 0,
    nb 2 1 U4]) (BWu)⟩
def BW0:Cd:=td [6,7,8,9]
def BW2:Cd:=.ret
def BW1:Cd:=.seq (.reg false [o_ 4 (.move (.c .bool false))]) (BW2)
def BW3:Cd:=.skip
def BWz:Cd:=.cond (.t 10) (.seq (td [10]) (BW1)) (.seq (td [10]) (BW3))
def BW5:Cd:=td [11]
def BKi:Cd:=.skip
def BKs:Cd:=.exit 0
def BKl:Cd:=td [15]
def BKn:Cd:=td [16,17,18,19,20,21,22,23]
def BKp:Cd:=.ret
def BKo:Cd:=.seq (.reg false [o_ 4 (.move (.c .bool false))]) (BKp)
def BKq:Cd:=.skip
def BKm:Cd:=.cond (.t 24) (.seq (td [24]) (BKo)) (.seq (td [24]) (BKq))
def BKk:Cd:=.seq (.seq (.reg true [mv 16 0,
    mv 17 5,
    ix 18 (.sl (.int .i64)) 16 17,
    ld 19 (.int .i64) 18,
    mv 20 1,
    mv 21 5,
    ix 22 (.sl (.int .i64)) 20 21,
    ld 23 (.int .i64) 22,
    bi 24 .neq 19 23]) (BKn)) (BKm)
def BKr:Cd:=td [25]
def BKj:Cd:=.seq (.reg false [bc 25 .add 13 1,
    mv 13 25]) (BKr)
def BKh:Cd:=.seq (.block 1 (.seq (.seq (.reg false [mv 15 13,
    mv 5 15]) (BKl)) (BKk))) (BKj)
def BKg:Cd:=.seq (.cond (.t 14) (.seq (td [14]) (BKi)) (.seq (td [14]) (BKs))) (BKh)
def BKf:Cd:=.tidy [5] [] [] (some 0)
def AM4:Cd:=.seq (.seq (.reg false [bi 14 .lss 13 12]) (BKg)) (BKf)
def BW4:Cd:=.block 0 (.loop (AM4))
def BKt:Cd:=.ret
def AT8:Cd:=.seq (.reg false [o_ 4 (.move (.c .bool true))]) (BKt)
def BWy:Cd:=.seq (.seq (.seq (.reg false [mv 11 0,
    le 12 11,
    ci 13 0]) (BW5)) (BW4)) (AT8)
def BWx:Cd:=.seq (.seq (.seq (.reg false [mv 6 0,
    le 7 6,
    mv 8 1,
    le 9 8,
    bi 10 .neq 7 9]) (BW0)) (BWz)) (BWy)
def Zq.fn:Fn:=⟨2,[.tmp 4],.seq (.reg false [o_ 4 (.move (.c .bool false))]) (BWx)⟩
def BR5:Cd:=td [5,6,7,8,9,10,11,12,13,14,15,16,17,18,19,20,21,22,23]
def BR4:Cd:=.ret
def BR3:Cd:=.seq (.seq (.reg true [od 5 (.load (.d Zz) (.t 2)) [0] [],
    o_ 6 (.call (.f 78) [(.t 5)] [.d U4] [] false),
    od 7 (.load (.d Zz) (.t 3)) [1] [],
    o_ 8 (.call (.f 78) [(.t 7)] [.d U4] [] false),
    o_ 9 (.eqs U4 false (.t 6) (.t 8)),
    mv 10 9,
    ogd 11 (.fieldAddr (.d Zz) 5 (.t 2)) 10 true [0],
    ogd 12 (.load (.d (.sl (.int .i64))) (.t 11)) 10 true [0],
    ogd 13 (.fieldAddr (.d Zz) 5 (.t 3)) 10 true [1],
    ogd 14 (.load (.d (.sl (.int .i64))) (.t 13)) 10 true [1],
    og 15 (.call (.f 79) [(.t 12),(.t 14)] [.d .bool] [] false) 10 true,
    o_ 16 (.pick (.t 10) (.t 15) (.c .bool false)),
    mv 17 16,
    ogd 18 (.fieldAddr (.d Zz) 7 (.t 2)) 17 true [0],
    ogd 19 (.load (.d (.sl (.int .i64))) (.t 18)) 17 true [0],
    ogd 20 (.fieldAddr (.d Zz) 7 (.t 3)) 17 true [1],
    ogd 21 (.load (.d (.sl (.int .i64))) (.t 20)) 17 true [1],
    og 22 (.call (.f 79) [(.t 19),(.t 21)] [.d .bool] [] false) 17 true,
    o_ 23 (.pick (.t 17) (.t 22) (.c .bool false)),
    mv 4 23]) (BR5)) (BR4)
def Hx.fn:Fn:=⟨2,[.tmp 4],.seq (.reg false [bx 2 0 0,
    bx 3 1 1,
    o_ 4 (.move (.c .bool false))]) (BR3)⟩
def BSi:Cd:=td [3,4,5]
def BSh:Cd:=.ret
def BSg:Cd:=.seq (.seq (.reg false [o_ 3 (.slicearr 4 .str (.g 1)),
    mv 4 0,
    o_ 5 (.call (.f 77) [(.t 3),(.t 4)] [.d .str] [] false),
    mv 2 5]) (BSi)) (BSh)
def Uc.fn:Fn:=⟨1,[.tmp 2],.seq (.reg false [o_ 2 (.move (.c .str (⟨#[]⟩:ByteArray)))]) (BSg)⟩
def BSl:Cd:=td [3,4,5,6,7,8]
def BSk:Cd:=.ret
def BSj:Cd:=.seq (.seq (.reg false [mv 3 0,
    bc 4 .geq 3 0,
    mv 5 4,
    og 6 (.move (.t 0)) 5 true,
    og 7 (.bin .leq (.t 6) (.c (.int .i64) (1073741824:Int))) 5 true,
    o_ 8 (.pick (.t 5) (.t 7) (.c .bool false)),
    mv 2 8]) (BSl)) (BSk)
def K0.fn:Fn:=⟨1,[.tmp 2],.seq (.reg false [o_ 2 (.move (.c .bool false))]) (BSj)⟩
def BXb:Cd:=td [3,4,5]
def BXa:Cd:=.ret
def BW9:Cd:=.seq (.seq (.reg false [mv 3 0,
    o_ 4 (.call (.f 48) [(.t 3)] [.d .bool] [] false),
    nt 5 4,
    mv 2 5]) (BXb)) (BXa)
def Kq.fn:Fn:=⟨1,[.tmp 2],.seq (.reg false [o_ 2 (.move (.c .bool false))]) (BW9)⟩
def AYh:Cd:=td [6]
def AYl:Cd:=.skip
def ARs:Cd:=.exit 0
def ARk:Cd:=td [10]
def ARm:Cd:=td [11,12,13,14,15]
def ARp:Cd:=td [17]
def ARo:Cd:=.ret
def ARn:Cd:=.seq (.seq (.reg false [mv 17 5,
    mv 4 17]) (ARp)) (ARo)
def ARq:Cd:=.skip
def ARl:Cd:=.cond (.t 16) (.seq (td [16]) (ARn)) (.seq (td [16]) (ARq))
def ARj:Cd:=.seq (.seq (.reg false [mv 11 1,
    mv 12 0,
    mv 13 5,
    ix 14 (.sl (.int .i64)) 12 13,
    ld 15 (.int .i64) 14,
    o_ 16 (.call (.t 11) [(.t 15)] [.d .bool] [] false)]) (ARm)) (ARl)
def ARr:Cd:=td [18]
def AYm:Cd:=.seq (.reg false [bc 18 .add 8 1,
    mv 8 18]) (ARr)
def AYk:Cd:=.seq (.block 1 (.seq (.seq (.reg false [mv 10 8,
    mv 5 10]) (ARk)) (ARj))) (AYm)
def AYj:Cd:=.seq (.cond (.t 9) (.seq (td [9]) (AYl)) (.seq (td [9]) (ARs))) (AYk)
def AYi:Cd:=.tidy [5] [] [] (some 0)
def AC6:Cd:=.seq (.seq (.reg false [bi 9 .lss 8 7]) (AYj)) (AYi)
def AYg:Cd:=.block 0 (.loop (AC6))
def ARt:Cd:=.ret
def AC5:Cd:=.seq (.reg false [o_ 4 (.move (.c (.int .i64) ((-1):Int)))]) (ARt)
def AYf:Cd:=.seq (.seq (.seq (.reg false [mv 6 0,
    le 7 6,
    ci 8 0]) (AYh)) (AYg)) (AC5)
def Zj.fn:Fn:=⟨2,[.tmp 4],.seq (.reg false [ci 4 0]) (AYf)⟩
def BW8:Cd:=td [5,6,7,8]
def BW7:Cd:=.ret
def BW6:Cd:=.seq (.seq (.reg false [mv 5 0,
    mv 6 1,
    o_ 7 (.call (.f 135) [(.t 5),(.t 6)] [.d (.int .i64)] [] false),
    bc 8 .geq 7 0,
    mv 4 8]) (BW8)) (BW7)
def Xh.fn:Fn:=⟨2,[.tmp 4],.seq (.reg false [o_ 4 (.move (.c .bool false))]) (BW6)⟩
def BSo:Cd:=td [3,4,5,6,7,8,9,10]
def BSn:Cd:=.ret
def BSm:Cd:=.seq (.seq (.reg false [mv 3 0,
    le 4 3,
    bc 5 .leq 4 16,
    mv 6 5,
    og 7 (.move (.t 0)) 6 true,
    og 8 (.call (.f 80) [(.t 7),(.f 81)] [.d .bool] [] false) 6 true,
    og 9 (.not (.t 8)) 6 true,
    o_ 10 (.pick (.t 6) (.t 9) (.c .bool false)),
    mv 2 10]) (BSo)) (BSn)
def Gs.fn:Fn:=⟨1,[.tmp 2],.seq (.reg false [o_ 2 (.move (.c .bool false))]) (BSm)⟩
def BP1:Cd:=td [3,4,5,6,7,8,9,10,11,12,13,14,15,16,17,18,19,20,21,22,23,24,25,26,27,28,29,30,31,32,33,34,35,36,37,38,39,40,41,42,43,44,45,46,47,48,49,50,51,52,53]
def BP0:Cd:=.ret
def BPz:Cd:=.seq (.seq (.reg true [od 3 (.fieldAddr (.d Zz) 0 (.t 1)) [0] [],
    od 4 (.load (.d (.int .i64)) (.t 3)) [0] [],
    o_ 5 (.call (.f 44) [(.t 4)] [.d .str] [] false),
    o_ 6 (.eqs .str true (.t 5) (.c .str (⟨#[]⟩:ByteArray))),
    mv 7 6,
    ogd 8 (.load (.d Zz) (.t 1)) 7 true [0],
    ogd 9 (.load (.d Zz) (.t 1)) 7 true [0],
    og 10 (.call (.f 46) [(.t 9)] [.d Zz] [] false) 7 true,
    og 11 (.call (.f 45) [(.t 8),(.t 10)] [.d .bool] [] false) 7 true,
    o_ 12 (.pick (.t 7) (.t 11) (.c .bool false)),
    mv 13 12,
    ogd 14 (.fieldAddr (.d Zz) 1 (.t 1)) 13 true [0],
    ogd 15 (.load (.d (.int .i64)) (.t 14)) 13 true [0],
    og 16 (.call (.f 47) [(.t 15)] [.d .str] [] false) 13 true,
    og 17 (.eqs .str true (.t 16) (.c .str (⟨#[]⟩:ByteArray))) 13 true,
    o_ 18 (.pick (.t 13) (.t 17) (.c .bool false)),
    mv 19 18,
    ogd 20 (.fieldAddr (.d Zz) 2 (.t 1)) 19 true [0],
    ogd 21 (.load (.d (.int .i64)) (.t 20)) 19 true [0],
    og 22 (.call (.f 48) [(.t 21)] [.d .bool] [] false) 19 true,
    o_ 23 (.pick (.t 19) (.t 22) (.c .bool false)),
    mv 24 23,
    ogd 25 (.fieldAddr (.d Zz) 3 (.t 1)) 24 true [0],
    ogd 26 (.load (.d (.int .i64)) (.t 25)) 24 true [0],
    og 27 (.call (.f 48) [(.t 26)] [.d .bool] [] false) 24 true,
    o_ 28 (.pick (.t 24) (.t 27) (.c .bool false)),
    mv 29 28,
    ogd 30 (.fieldAddr (.d Zz) 4 (.t 1)) 29 true [0],
    ogd 31 (.load (.d (.int .i64)) (.t 30)) 29 true [0],
    og 32 (.call (.f 48) [(.t 31)] [.d .bool] [] false) 29 true,
    o_ 33 (.pick (.t 29) (.t 32) (.c .bool false)),
    mv 34 33,
    ogd 35 (.fieldAddr (.d Zz) 6 (.t 1)) 34 true [0],
    ogd 36 (.load (.d (.int .i64)) (.t 35)) 34 true [0],
    og 37 (.call (.f 48) [(.t 36)] [.d .bool] [] false) 34 true,
    o_ 38 (.pick (.t 34) (.t 37) (.c .bool false)),
    mv 39 38,
    ogd 40 (.fieldAddr (.d Zz) 8 (.t 1)) 39 true [0],
    ogd 41 (.load (.d (.int .i64)) (.t 40)) 39 true [0],
    og 42 (.call (.f 48) [(.t 41)] [.d .bool] [] false) 39 true,
    o_ 43 (.pick (.t 39) (.t 42) (.c .bool false)),
    mv 44 43,
    ogd 45 (.fieldAddr (.d Zz) 5 (.t 1)) 44 true [0],
    ogd 46 (.load (.d (.sl (.int .i64))) (.t 45)) 44 true [0],
    og 47 (.call (.f 49) [(.t 46)] [.d .bool] [] false) 44 true,
    o_ 48 (.pick (.t 44) (.t 47) (.c .bool false)),
    mv 49 48,
    ogd 50 (.fieldAddr (.d Zz) 7 (.t 1)) 49 true [0],
    ogd 51 (.load (.d (.sl (.int .i64))) (.t 50)) 49 true [0],
    og 52 (.call (.f 49) [(.t 51)] [.d .bool] [] false) 49 true,
    o_ 53 (.pick (.t 49) (.t 52) (.c .bool false)),
    mv 2 53]) (BP1)) (BP0)
def Hn.fn:Fn:=⟨1,[.tmp 2],.seq (.reg false [bx 1 0 0,
    o_ 2 (.move (.c .bool false))]) (BPz)⟩
def AYa:Cd:=td [8]
def AYe:Cd:=.skip
def ARg:Cd:=.exit 0
def AQ9:Cd:=td [13,14,15]
def ARb:Cd:=td [16,17,18,19]
def ARd:Cd:=td [21,22,23,24,25,26]
def ARc:Cd:=.seq (.reg false [mv 21 5,
    mv 22 6,
    ld 23 Za 7,
    o_ 24 (.build Ym [(0,(.t 22)),(1,(.t 23))] []),
    o_ 25 (.slice 3 Ym [(.t 24)]),
    o_ 26 (.append 4 Ym (.t 21) (.t 25)),
    mv 5 26]) (ARd)
def ARf:Cd:=.skip
def ARa:Cd:=.cond (.t 20) (.seq (td [20]) (ARc)) (.seq (td [20]) (ARf))
def AQ8:Cd:=.seq (.seq (.reg true [od 16 (.load (.d Zb) (.t 2)) [0] [],
    mv 17 6,
    o_ 18 (.call (.f 31) [(.t 16),(.t 17)] [.d Za] [] false),
    od 19 (.load (.d Za) (.t 3)) [1] [],
    o_ 20 (.eqs Za false (.t 18) (.t 19))]) (ARb)) (ARa)
def ARe:Cd:=td [27]
def AQ7:Cd:=.seq (.reg false [bc 27 .add 11 1,
    mv 11 27]) (ARe)
def AYd:Cd:=.seq (.block 1 (.seq (.seq (.reg false [mv 13 11,
    ix 14 (.sl Za) 9 11,
    ld 15 Za 14,
    nb 7 2 Za,
    mv 6 13,
    sr Za 7 15]) (AQ9)) (AQ8))) (AQ7)
def AYc:Cd:=.seq (.cond (.t 12) (.seq (td [12]) (AYe)) (.seq (td [12]) (ARg))) (AYd)
def AYb:Cd:=.tidy [6,7] [(4,5)] [2,3] (some 6)
def AMf:Cd:=.seq (.seq (.reg false [bi 12 .lss 11 10]) (AYc)) (AYb)
def AX9:Cd:=.block 0 (.loop (AMf))
def ARi:Cd:=td [28]
def ARh:Cd:=.ret
def AMe:Cd:=.seq (.seq (.reg false [mv 28 5,
    mv 4 28]) (ARi)) (ARh)
def AX8:Cd:=.seq (.seq (.seq (.reg false [fa 8 Zb 3 2,
    ld 9 (.sl Za) 8,
    le 10 9,
    ci 11 0]) (AYa)) (AX9)) (AMe)
def AX7:Cd:=.seq (.reg false [o_ 5 (.mknil 5 Ym)]) (AX8)
def X1.fn:Fn:=⟨2,[.tmp 4],.seq (.reg false [bx 2 0 0,
    bx 3 1 1,
    o_ 4 (.move (.c (.sl Ym) []))]) (AX7)⟩
def BV7:Cd:=td [5,6,7,8,9,10,11,12,13,14]
def BV6:Cd:=.ret
def BV5:Cd:=.seq (.seq (.reg true [od 5 (.fieldAddr (.d Zb) 2 (.t 2)) [0] [],
    od 6 (.load (.d (.sl (.int .i64))) (.t 5)) [0] [],
    mv 7 1,
    ix 8 (.sl (.int .i64)) 6 7,
    ld 9 (.int .i64) 8,
    od 10 (.load (.d Zb) (.t 2)) [0] [],
    mv 11 1,
    o_ 12 (.build Za [(0,(.c (.int .i64) (1:Int))),(1,(.t 11))] []),
    o_ 13 (.call (.f 121) [(.t 10),(.t 12)] [.d (.sl Ym)] [] false),
    o_ 14 (.build Z9 [(1,(.c (.int .i64) (10:Int))),(5,(.t 9)),(4,(.t 13))] []),
    ⟨none,.store (.d Z9) (.t 4) (.t 14),none,[],[1]⟩]) (BV7)) (BV6)
def Kv.fn:Fn:=⟨2,[.cell 4 (.d Z9)],.seq (.reg false [bx 2 0 0,
    nb 4 1 Z9]) (BV5)⟩
def AW0:Cd:=td [6]
def AW2:Cd:=td [9,10,11,12,13]
def AW1:Cd:=.ret
def AWz:Cd:=.seq (.seq (.reg true [od 9 (.load (.d Zb) (.t 4)) [0] [],
    o_ 10 (.load (.v false 1) (.t 3)),
    od 11 (.load (.d Zb) (.t 4)) [0] [],
    mv 12 1,
    o_ 13 (.call (.t 10) [(.t 11),(.t 12)] [.d Z9] [] false),
    ⟨none,.store (.d Zb) (.t 7) (.t 9),none,[],[2]⟩,
    ⟨none,.store (.d Z9) (.t 8) (.t 13),none,[],[3]⟩]) (AW2)) (AW1)
def Qn.fn:Fn:=⟨4,[.cell 7 (.d Zb),.cell 8 (.d Z9)],.seq (.seq (.reg false [bx 4 0 0,
    bx 6 1 2,
    nb 7 2 Zb,
    nb 8 3 Z9]) (AW0)) (AWz)⟩
def AX2:Cd:=td [7,8]
def AX6:Cd:=.skip
def AQ4:Cd:=.exit 0
def AQx:Cd:=td [12]
def AQz:Cd:=td [13,14,15,16,17,18]
def AQ1:Cd:=td [20,21,22,23]
def AQ0:Cd:=.seq (.reg false [mv 20 5,
    mv 21 6,
    o_ 22 (.slice 1 (.int .i64) [(.t 21)]),
    o_ 23 (.append 2 (.int .i64) (.t 20) (.t 22)),
    mv 5 23]) (AQ1)
def AQ3:Cd:=.skip
def AQy:Cd:=.cond (.t 19) (.seq (td [19]) (AQ0)) (.seq (td [19]) (AQ3))
def AQw:Cd:=.seq (.seq (.reg false [fa 13 Zb 1 2,
    o_ 14 (.load (.d (.sl (.int .i64))) (.t 13)),
    mv 15 6,
    ix 16 (.sl (.int .i64)) 14 15,
    ld 17 (.int .i64) 16,
    mv 18 1,
    bi 19 .eql 17 18]) (AQz)) (AQy)
def AQ2:Cd:=td [24]
def AQv:Cd:=.seq (.reg false [bc 24 .add 10 1,
    mv 10 24]) (AQ2)
def AX5:Cd:=.seq (.block 1 (.seq (.seq (.reg false [mv 12 10,
    mv 6 12]) (AQx)) (AQw))) (AQv)
def AX4:Cd:=.seq (.cond (.t 11) (.seq (td [11]) (AX6)) (.seq (td [11]) (AQ4))) (AX5)
def AX3:Cd:=.tidy [6] [(2,3)] [1] (some 4)
def AMd:Cd:=.seq (.seq (.reg false [bi 11 .lss 10 9]) (AX4)) (AX3)
def AX1:Cd:=.block 0 (.loop (AMd))
def AQ6:Cd:=td [25]
def AQ5:Cd:=.ret
def AMc:Cd:=.seq (.seq (.reg false [mv 25 5,
    mv 4 25]) (AQ6)) (AQ5)
def AX0:Cd:=.seq (.seq (.seq (.reg false [fa 7 Zb 1 2,
    o_ 8 (.load (.d (.sl (.int .i64))) (.t 7)),
    le 9 8,
    ci 10 0]) (AX2)) (AX1)) (AMc)
def AXz:Cd:=.seq (.reg false [o_ 5 (.mknil 3 (.int .i64))]) (AX0)
def Xm.fn:Fn:=⟨2,[.tmp 4],.seq (.reg false [bx 2 0 0,
    o_ 4 (.move (.c (.sl (.int .i64)) []))]) (AXz)⟩
def BV2:Cd:=td [6,7,8,9,10]
def BV4:Cd:=td [11,12,13,14,15,16,17,18,19]
def BV3:Cd:=.ret
def BV1:Cd:=.seq (.seq (.reg true [mv 11 5,
    od 12 (.load (.d Zb) (.t 2)) [0] [],
    mv 13 5,
    o_ 14 (.call (.f 120) [(.t 12),(.t 13)] [.d (.sl (.int .i64))] [] false),
    od 15 (.load (.d Zb) (.t 2)) [0] [],
    mv 16 5,
    o_ 17 (.build Za [(0,(.c (.int .i64) (0:Int))),(1,(.t 16))] []),
    o_ 18 (.call (.f 121) [(.t 15),(.t 17)] [.d (.sl Ym)] [] false),
    o_ 19 (.build Z9 [(1,(.c (.int .i64) (9:Int))),(2,(.t 11)),(3,(.t 14)),(4,(.t 18))] []),
    ⟨none,.store (.d Z9) (.t 4) (.t 19),none,[],[1]⟩]) (BV4)) (BV3)
def BV0:Cd:=.seq (.seq (.reg false [fa 6 Zb 1 2,
    o_ 7 (.load (.d (.sl (.int .i64))) (.t 6)),
    mv 8 1,
    ix 9 (.sl (.int .i64)) 7 8,
    ld 10 (.int .i64) 9,
    mv 5 10]) (BV2)) (BV1)
def V3.fn:Fn:=⟨2,[.cell 4 (.d Z9)],.seq (.reg false [bx 2 0 0,
    nb 4 1 Z9]) (BV0)⟩
def AVz:Cd:=td [5,6,7,8,9,10,11,12,13]
def AVy:Cd:=.ret
def AVx:Cd:=.seq (.seq (.reg false [mv 5 1,
    bc 6 .geq 5 0,
    mv 7 6,
    og 8 (.move (.t 1)) 7 true,
    og 9 (.fieldAddr (.d Zb) 1 (.t 2)) 7 true,
    og 10 (.load (.d (.sl (.int .i64))) (.t 9)) 7 true,
    og 11 (.len (.t 10)) 7 true,
    og 12 (.bin .lss (.t 8) (.t 11)) 7 true,
    o_ 13 (.pick (.t 7) (.t 12) (.c .bool false)),
    mv 4 13]) (AVz)) (AVy)
def Qp.fn:Fn:=⟨2,[.tmp 4],.seq (.reg false [bx 2 0 0,
    o_ 4 (.move (.c .bool false))]) (AVx)⟩
def AVw:Cd:=td [5,6,7,8,9,10,11,12,13]
def AVv:Cd:=.ret
def AVu:Cd:=.seq (.seq (.reg false [mv 5 1,
    bc 6 .geq 5 0,
    mv 7 6,
    og 8 (.move (.t 1)) 7 true,
    og 9 (.fieldAddr (.d Zb) 3 (.t 2)) 7 true,
    og 10 (.load (.d (.sl Za)) (.t 9)) 7 true,
    og 11 (.len (.t 10)) 7 true,
    og 12 (.bin .lss (.t 8) (.t 11)) 7 true,
    o_ 13 (.pick (.t 7) (.t 12) (.c .bool false)),
    mv 4 13]) (AVw)) (AVv)
def Hf.fn:Fn:=⟨2,[.tmp 4],.seq (.reg false [bx 2 0 0,
    o_ 4 (.move (.c .bool false))]) (AVu)⟩
def AWb:Cd:=td [4,5,6,7]
def AWa:Cd:=.ret
def AV9:Cd:=.seq (.seq (.reg false [ld 4 Zb 1,
    mv 5 0,
    o_ 6 (.call (.f 109) [(.t 4),(.t 5)] [.d .bool] [] false),
    nt 7 6,
    mv 3 7]) (AWb)) (AWa)
def Qo.fn:Fn:=⟨2,[.tmp 3],.seq (.reg false [o_ 3 (.move (.c .bool false))]) (AV9)⟩
def AWe:Cd:=td [6]
def AWj:Cd:=.skip
def AQh:Cd:=.exit 0
def AP8:Cd:=td [11,12]
def AQb:Cd:=td [13,14]
def AQd:Cd:=.ret
def AQc:Cd:=.seq (.reg false [o_ 2 (.move (.c .bool true))]) (AQd)
def AQe:Cd:=.skip
def AQa:Cd:=.cond (.t 15) (.seq (td [15]) (AQc)) (.seq (td [15]) (AQe))
def AQf:Cd:=td [16,17]
def AP9:Cd:=.seq (.reg false [mv 16 3,
    mv 17 5,
    on_ (.mapset (.int .i64) .bool (.t 16) (.t 17) (.c .bool true))]) (AQf)
def AP7:Cd:=.seq (.seq (.seq (.reg false [mv 13 3,
    mv 14 5,
    o_ 15 (.lookup (.int .i64) .bool (.t 13) (.t 14))]) (AQb)) (AQa)) (AP9)
def AQg:Cd:=td [18]
def AP6:Cd:=.seq (.reg false [bc 18 .add 9 1,
    mv 9 18]) (AQg)
def AWi:Cd:=.seq (.block 1 (.seq (.seq (.reg false [ix 11 (.sl (.int .i64)) 7 9,
    ld 12 (.int .i64) 11,
    mv 5 12]) (AP8)) (AP7))) (AP6)
def AWh:Cd:=.seq (.cond (.t 10) (.seq (td [10]) (AWj)) (.seq (td [10]) (AQh))) (AWi)
def AWg:Cd:=.tidy [5] [] [] (some 1)
def AMb:Cd:=.seq (.seq (.reg false [bi 10 .lss 9 8]) (AWh)) (AWg)
def AWf:Cd:=.block 0 (.loop (AMb))
def AQi:Cd:=.ret
def AMa:Cd:=.seq (.reg false [o_ 2 (.move (.c .bool false))]) (AQi)
def AWd:Cd:=.seq (.seq (.reg false [mv 7 0,
    le 8 7,
    ci 9 0]) (AWf)) (AMa)
def AWc:Cd:=.seq (.seq (.reg false [o_ 6 (.mkmap 0 (.int .i64) .bool),
    mv 3 6]) (AWe)) (AWd)
def Xy.fn:Fn:=⟨1,[.tmp 2],.seq (.reg false [o_ 2 (.move (.c .bool false))]) (AWc)⟩
def AV2:Cd:=td [3,4]
def AV1:Cd:=.ret
def AV0:Cd:=.seq (.seq (.reg false [mv 3 0,
    o_ 4 (.build Za [(0,(.c (.int .i64) (1:Int))),(1,(.t 3))] []),
    sr Za 2 4]) (AV2)) (AV1)
def Y9.fn:Fn:=⟨1,[.cell 2 (.d Za)],.seq (.reg false [nb 2 0 Za]) (AV0)⟩
def AV8:Cd:=td [5,6,7,8,9,10,11,12]
def AV7:Cd:=.ret
def AV6:Cd:=.seq (.seq (.reg true [fa 5 Zb 3 1,
    ld 6 (.sl Za) 5,
    mv 7 0,
    ix 8 (.sl Za) 6 7,
    ld 9 Za 8,
    ld 10 (.int .i64) 2,
    o_ 11 (.call (.f 111) [(.t 10)] [.d Za] [] false),
    o_ 12 (.eqs Za true (.t 9) (.t 11)),
    mv 4 12]) (AV8)) (AV7)
def Y2.fn:Fn:=⟨3,[.tmp 4],.seq (.reg false [o_ 4 (.move (.c .bool false))]) (AV6)⟩
def AV5:Cd:=td [6,7,8]
def AV4:Cd:=.ret
def AV3:Cd:=.seq (.seq (.reg false [mv 6 0,
    o_ 7 (.func 114 [(.t 2),(.t 4)]),
    o_ 8 (.call (.f 80) [(.t 6),(.t 7)] [.d .bool] [] false),
    mv 5 8]) (AV5)) (AV4)
def Qe.fn:Fn:=⟨3,[.tmp 5],.seq (.reg false [bx 4 0 1,
    o_ 5 (.move (.c .bool false))]) (AV3)⟩
def AY0:Cd:=td [8]
def AY4:Cd:=.skip
def ASi:Cd:=.exit 0
def ASb:Cd:=td [13,14,15]
def ASd:Cd:=td [16,17]
def ASf:Cd:=td [19,20,21,22]
def ASe:Cd:=.seq (.reg false [mv 19 5,
    mv 20 6,
    o_ 21 (.slice 3 (.int .i64) [(.t 20)]),
    o_ 22 (.append 4 (.int .i64) (.t 19) (.t 21)),
    mv 5 22]) (ASf)
def ASh:Cd:=.skip
def ASc:Cd:=.cond (.t 18) (.seq (td [18]) (ASe)) (.seq (td [18]) (ASh))
def ASa:Cd:=.seq (.seq (.reg false [ld 16 Za 3,
    ld 17 Za 7,
    o_ 18 (.eqs Za false (.t 16) (.t 17))]) (ASd)) (ASc)
def ASg:Cd:=td [23]
def AR9:Cd:=.seq (.reg false [bc 23 .add 11 1,
    mv 11 23]) (ASg)
def AY3:Cd:=.seq (.block 1 (.seq (.seq (.reg false [mv 13 11,
    ix 14 (.sl Za) 9 11,
    ld 15 Za 14,
    nb 7 2 Za,
    mv 6 13,
    sr Za 7 15]) (ASb)) (ASa))) (AR9)
def AY2:Cd:=.seq (.cond (.t 12) (.seq (td [12]) (AY4)) (.seq (td [12]) (ASi))) (AY3)
def AY1:Cd:=.tidy [6,7] [(4,5)] [2,3] (some 6)
def AMh:Cd:=.seq (.seq (.reg false [bi 12 .lss 11 10]) (AY2)) (AY1)
def AYz:Cd:=.block 0 (.loop (AMh))
def ASk:Cd:=td [24]
def ASj:Cd:=.ret
def AMg:Cd:=.seq (.seq (.reg false [mv 24 5,
    mv 4 24]) (ASk)) (ASj)
def AYy:Cd:=.seq (.seq (.seq (.reg false [fa 8 Zb 3 2,
    ld 9 (.sl Za) 8,
    le 10 9,
    ci 11 0]) (AY0)) (AYz)) (AMg)
def AYx:Cd:=.seq (.reg false [o_ 5 (.mknil 5 (.int .i64))]) (AYy)
def Qd.fn:Fn:=⟨2,[.tmp 4],.seq (.reg false [bx 2 0 0,
    bx 3 1 1,
    o_ 4 (.move (.c (.sl (.int .i64)) []))]) (AYx)⟩
def AU5:Cd:=td [6,7,8,9,10,11,12,13,14,15]
def AU7:Cd:=td [16,17,18,19,20,21,22,23,24]
def AU6:Cd:=.ret
def AU4:Cd:=.seq (.seq (.reg true [od 16 (.fieldAddr (.d Za) 0 (.t 3)) [1] [],
    od 17 (.load (.d (.int .i64)) (.t 16)) [1] [],
    od 18 (.index (.arr 3 (.int .i64)) (.t 5) (.t 17)) [2] [],
    od 19 (.load (.d (.int .i64)) (.t 18)) [2] [],
    od 20 (.load (.d Zb) (.t 2)) [0] [],
    od 21 (.load (.d Za) (.t 3)) [1] [],
    o_ 22 (.call (.f 137) [(.t 20),(.t 21)] [.d (.sl (.int .i64))] [] false),
    le 23 22,
    bi 24 .sub 19 23,
    mv 4 24]) (AU7)) (AU6)
def AU3:Cd:=.seq (.seq (.reg false [fa 6 Zb 0 2,
    fa 7 Z3 5 6,
    ld 8 (.int .i64) 7,
    fa 9 Zb 0 2,
    fa 10 Z3 6 9,
    ld 11 (.int .i64) 10,
    fa 12 Zb 0 2,
    fa 13 Z3 7 12,
    ld 14 (.int .i64) 13,
    o_ 15 (.build (.arr 3 (.int .i64)) [(0,(.t 8)),(1,(.t 11)),(2,(.t 14))] []),
    o_ 5 (.newbox 2 (.arr 3 (.int .i64)) []),
    on_ (.store (.d (.arr 3 (.int .i64))) (.t 5) (.t 15))]) (AU5)) (AU4)
def Jp.fn:Fn:=⟨2,[.tmp 4],.seq (.reg false [bx 2 0 0,
    bx 3 1 1,
    ci 4 0]) (AU3)⟩
def AY7:Cd:=td [3,4,5,6,7,8]
def AY6:Cd:=.ret
def AY5:Cd:=.seq (.seq (.reg false [mv 3 0,
    bc 4 .geq 3 0,
    mv 5 4,
    og 6 (.move (.t 0)) 5 true,
    og 7 (.bin .leq (.t 6) (.c (.int .i64) (1073741824:Int))) 5 true,
    o_ 8 (.pick (.t 5) (.t 7) (.c .bool false)),
    mv 2 8]) (AY7)) (AY6)
def Gt.fn:Fn:=⟨1,[.tmp 2],.seq (.reg false [o_ 2 (.move (.c .bool false))]) (AY5)⟩
def AWn:Cd:=td [12,13,14,15,16,17]
def AWq:Cd:=td [18,19]
def AWp:Cd:=.ret
def AWo:Cd:=.seq (.seq (.reg false [mv 18 0,
    mv 19 1,
    mv 8 18,
    mv 9 19,
    ci 10 1]) (AWq)) (AWp)
def AWt:Cd:=td [21,22,23,24,25,26,27,28]
def AQl:Cd:=td [29,30]
def AQk:Cd:=.ret
def AQj:Cd:=.seq (.seq (.reg false [mv 29 0,
    mv 30 1,
    mv 8 29,
    mv 9 30,
    ci 10 10]) (AQl)) (AQk)
def AQo:Cd:=td [32,33,34,35,36,37,38,39,40,41,42,43,44,45,46,47]
def AQr:Cd:=td [48,49]
def AQq:Cd:=.ret
def AQp:Cd:=.seq (.seq (.reg false [mv 48 0,
    mv 49 1,
    mv 8 48,
    mv 9 49,
    ci 10 11]) (AQr)) (AQq)
def AQs:Cd:=.skip
def AQn:Cd:=.cond (.t 31) (.seq (td [31]) (AQp)) (.seq (td [31]) (AQs))
def AQm:Cd:=.seq (.seq (.reg false [mv 32 0,
    mv 33 2,
    bi 34 .sub 32 33,
    mv 35 3,
    bi 36 .add 34 35,
    o_ 37 (.call (.f 139) [(.t 36)] [.d .bool] [] false),
    nt 38 37,
    mv 39 38,
    og 40 (.move (.t 1)) 39 false,
    og 41 (.move (.t 3)) 39 false,
    og 42 (.bin .sub (.t 40) (.t 41)) 39 false,
    og 43 (.move (.t 2)) 39 false,
    og 44 (.bin .add (.t 42) (.t 43)) 39 false,
    og 45 (.call (.f 139) [(.t 44)] [.d .bool] [] false) 39 false,
    og 46 (.not (.t 45)) 39 false,
    o_ 47 (.pick (.t 39) (.c .bool true) (.t 46)),
    mv 31 47]) (AQo)) (AQn)
def AWs:Cd:=.cond (.t 20) (.seq (td [20]) (AQj)) (.seq (td [20]) (AQm))
def AWr:Cd:=.seq (.seq (.reg false [mv 21 2,
    mv 22 0,
    bi 23 .gtr 21 22,
    mv 24 23,
    og 25 (.move (.t 3)) 24 false,
    og 26 (.move (.t 1)) 24 false,
    og 27 (.bin .gtr (.t 25) (.t 26)) 24 false,
    o_ 28 (.pick (.t 24) (.c .bool true) (.t 27)),
    mv 20 28]) (AWt)) (AWs)
def AWm:Cd:=.cond (.t 11) (.seq (td [11]) (AWo)) (.seq (td [11]) (AWr))
def AQu:Cd:=td [50,51,52,53,54,55,56,57,58,59]
def AQt:Cd:=.ret
def AWl:Cd:=.seq (.seq (.reg false [mv 50 0,
    mv 51 2,
    bi 52 .sub 50 51,
    mv 53 3,
    bi 54 .add 52 53,
    mv 55 1,
    mv 56 3,
    bi 57 .sub 55 56,
    mv 58 2,
    bi 59 .add 57 58,
    mv 8 54,
    mv 9 59,
    ci 10 0]) (AQu)) (AQt)
def AWk:Cd:=.seq (.block 0 (.seq (.seq (.reg false [mv 12 2,
    bc 13 .lss 12 0,
    mv 14 13,
    og 15 (.move (.t 3)) 14 false,
    og 16 (.bin .lss (.t 15) (.c (.int .i64) (0:Int))) 14 false,
    o_ 17 (.pick (.t 14) (.c .bool true) (.t 16)),
    mv 11 17]) (AWn)) (AWm))) (AWl)
def Kr.fn:Fn:=⟨4,[.tmp 8,.tmp 9,.tmp 10],.seq (.reg false [ci 8 0,
    ci 9 0,
    ci 10 0]) (AWk)⟩
def AWw:Cd:=td [3,4,5,6,7,8,9,10,11,12,13,14]
def AWy:Cd:=td [15]
def AWx:Cd:=.ret
def AWv:Cd:=.seq (.seq (.reg false [ld 15 Zb 1,
    sr Zb 2 15]) (AWy)) (AWx)
def AWu:Cd:=.seq (.seq (.reg true [od 3 (.fieldAddr (.d Zb) 1 (.t 1)) [0] [],
    od 4 (.load (.d (.sl (.int .i64))) (.t 3)) [0] [],
    od 5 (.call (.f 140) [(.t 4)] [.d (.sl (.int .i64))] [((0,[]),2)] false) [] [2],
    od 6 (.fieldAddr (.d Zb) 2 (.t 1)) [0] [],
    od 7 (.load (.d (.sl (.int .i64))) (.t 6)) [0] [],
    od 8 (.call (.f 140) [(.t 7)] [.d (.sl (.int .i64))] [((0,[]),3)] false) [] [3],
    od 9 (.fieldAddr (.d Zb) 3 (.t 1)) [0] [],
    od 10 (.load (.d (.sl Za)) (.t 9)) [0] [],
    od 11 (.call (.f 141) [(.t 10)] [.d (.sl Za)] [((0,[]),4)] false) [] [4],
    od 12 (.fieldAddr (.d Zb) 1 (.t 1)) [0] [],
    ⟨none,.store (.d (.sl (.int .i64))) (.t 12) (.t 5),none,[],[0]⟩,
    od 13 (.fieldAddr (.d Zb) 2 (.t 1)) [0] [],
    ⟨none,.store (.d (.sl (.int .i64))) (.t 13) (.t 8),none,[],[0]⟩,
    od 14 (.fieldAddr (.d Zb) 3 (.t 1)) [0] [],
    ⟨none,.store (.d (.sl Za)) (.t 14) (.t 11),none,[],[0]⟩]) (AWw)) (AWv)
def Jz.fn:Fn:=⟨1,[.cell 2 (.d Zb)],.seq (.reg false [bx 1 0 0,
    nb 2 1 Zb]) (AWu)⟩
def BVp:Cd:=td [20,21,22,23,24,25,26,27]
def BVr:Cd:=td [28]
def BVu:Cd:=td [30,31,32,33,34,35,36,37,38]
def BH2:Cd:=td [39]
def BVw:Cd:=.ret
def BVv:Cd:=.seq (.seq (.reg false [ld 39 Zb 3,
    sr Zb 6 39,
    ci 7 3]) (BH2)) (BVw)
def BH5:Cd:=td [41,42,43]
def BH8:Cd:=td [44]
def BH7:Cd:=.ret
def BH6:Cd:=.seq (.seq (.reg false [ld 44 Zb 3,
    sr Zb 6 44,
    ci 7 12]) (BH8)) (BH7)
def BIb:Cd:=td [46,47,48,49,50,51,52,53,54,55,56]
def BIe:Cd:=td [57]
def BId:Cd:=.ret
def BIc:Cd:=.seq (.seq (.reg false [ld 57 Zb 3,
    sr Zb 6 57,
    ci 7 5]) (BIe)) (BId)
def BIh:Cd:=td [59,60]
def BIk:Cd:=td [61]
def BIj:Cd:=.ret
def BIi:Cd:=.seq (.seq (.reg false [ld 61 Zb 3,
    sr Zb 6 61,
    ci 7 13]) (BIk)) (BIj)
def BIn:Cd:=td [63,64,65,66,67,68,69,70,71,72,73,74]
def BIq:Cd:=td [75]
def BIp:Cd:=.ret
def BIo:Cd:=.seq (.seq (.reg false [ld 75 Zb 3,
    sr Zb 6 75,
    ci 7 5]) (BIq)) (BIp)
def BIr:Cd:=.skip
def BIm:Cd:=.cond (.t 62) (.seq (td [62]) (BIo)) (.seq (td [62]) (BIr))
def BIl:Cd:=.seq (.seq (.reg false [mv 63 10,
    fa 64 Zz 5 5,
    o_ 65 (.load (.d (.sl (.int .i64))) (.t 64)),
    mv 66 1,
    o_ 67 (.call (.t 63) [(.t 65),(.t 66)] [.d .bool] [] false),
    mv 68 67,
    og 69 (.move (.t 10)) 68 false,
    og 70 (.fieldAddr (.d Zz) 7 (.t 5)) 68 false,
    og 71 (.load (.d (.sl (.int .i64))) (.t 70)) 68 false,
    og 72 (.move (.t 8)) 68 false,
    og 73 (.call (.t 69) [(.t 71),(.t 72)] [.d .bool] [] false) 68 false,
    o_ 74 (.pick (.t 68) (.c .bool true) (.t 73)),
    mv 62 74]) (BIn)) (BIm)
def BIg:Cd:=.cond (.t 58) (.seq (td [58]) (BIi)) (.seq (td [58]) (BIl))
def BIf:Cd:=.seq (.seq (.reg false [mv 59 9,
    o_ 60 (.call (.f 116) [(.t 59)] [.d .bool] [] false),
    mv 58 60]) (BIh)) (BIg)
def BIa:Cd:=.cond (.t 45) (.seq (td [45]) (BIc)) (.seq (td [45]) (BIf))
def BH9:Cd:=.seq (.seq (.reg true [od 46 (.fieldAddr (.d Zb) 1 (.t 3)) [0] [],
    od 47 (.load (.d (.sl (.int .i64))) (.t 46)) [0] [],
    mv 48 8,
    ix 49 (.sl (.int .i64)) 47 48,
    ld 50 (.int .i64) 49,
    od 51 (.fieldAddr (.d Zb) 1 (.t 3)) [0] [],
    od 52 (.load (.d (.sl (.int .i64))) (.t 51)) [0] [],
    mv 53 1,
    ix 54 (.sl (.int .i64)) 52 53,
    ld 55 (.int .i64) 54,
    bi 56 .neq 50 55,
    mv 45 56]) (BIb)) (BIa)
def BH4:Cd:=.cond (.t 40) (.seq (td [40]) (BH6)) (.seq (td [40]) (BH9))
def BH3:Cd:=.seq (.seq (.reg false [mv 41 8,
    mv 42 1,
    bi 43 .eql 41 42,
    mv 40 43]) (BH5)) (BH4)
def BVt:Cd:=.cond (.t 29) (.seq (td [29]) (BVv)) (.seq (td [29]) (BH3))
def BIt:Cd:=td [76,77,78,79,80,81,82]
def BIw:Cd:=td [83,84,85,86,87,88,89,90,91,92,93,94,95,96]
def BIz:Cd:=td [98]
def BIy:Cd:=.ret
def BIx:Cd:=.seq (.seq (.reg false [ld 98 Zb 3,
    sr Zb 6 98,
    ci 7 9]) (BIz)) (BIy)
def BI0:Cd:=.skip
def BIv:Cd:=.cond (.t 97) (.seq (td [97]) (BIx)) (.seq (td [97]) (BI0))
def BI2:Cd:=td [99,100,101,102,103,104,105,106,107,108,109,110,111,112,113,114,115,116,117]
def BI5:Cd:=td [118]
def BI8:Cd:=td [120,121]
def BI7:Cd:=.ret
def BI6:Cd:=.seq (.seq (.reg false [ld 120 Zb 3,
    mv 121 14,
    sr Zb 6 120,
    mv 7 121]) (BI8)) (BI7)
def BI9:Cd:=.skip
def BI4:Cd:=.cond (.t 119) (.seq (td [119]) (BI6)) (.seq (td [119]) (BI9))
def BJb:Cd:=td [122,123]
def BJd:Cd:=td [124,125,126,127,128,129,130,131,132,133]
def BJf:Cd:=td [134]
def BJj:Cd:=.skip
def BJp:Cd:=.exit 1
def BJm:Cd:=td [139,140]
def BJn:Cd:=td [141,142,143,144,145,146]
def BJl:Cd:=.seq (.reg true [od 141 (.fieldAddr (.d Zb) 3 (.t 15)) [4] [],
    od 142 (.load (.d (.sl Za)) (.t 141)) [4] [],
    mv 143 17,
    mv 144 8,
    o_ 145 (.call (.f 111) [(.t 144)] [.d Za] [] false),
    od 146 (.index (.sl Za) (.t 142) (.t 143)) [6] [],
    ⟨none,.store (.d Za) (.t 146) (.t 145),none,[],[6]⟩]) (BJn)
def BJo:Cd:=td [147]
def BJk:Cd:=.seq (.reg false [bc 147 .add 137 1,
    mv 137 147]) (BJo)
def BJi:Cd:=.seq (.block 2 (.seq (.seq (.reg false [ix 139 (.sl (.int .i64)) 135 137,
    ld 140 (.int .i64) 139,
    mv 17 140]) (BJm)) (BJl))) (BJk)
def BJh:Cd:=.seq (.cond (.t 138) (.seq (td [138]) (BJj)) (.seq (td [138]) (BJp))) (BJi)
def BJg:Cd:=.tidy [17] [] [] (some 7)
def AM1:Cd:=.seq (.seq (.reg false [bi 138 .lss 137 136]) (BJh)) (BJg)
def BJe:Cd:=.block 1 (.loop (AM1))
def BJr:Cd:=td [148]
def BJv:Cd:=.skip
def BJ1:Cd:=.exit 3
def BJy:Cd:=td [153,154]
def BJz:Cd:=td [155,156,157,158,159,160]
def BJx:Cd:=.seq (.reg true [od 155 (.fieldAddr (.d Zb) 3 (.t 15)) [4] [],
    od 156 (.load (.d (.sl Za)) (.t 155)) [4] [],
    mv 157 19,
    mv 158 1,
    o_ 159 (.call (.f 111) [(.t 158)] [.d Za] [] false),
    od 160 (.index (.sl Za) (.t 156) (.t 157)) [6] [],
    ⟨none,.store (.d Za) (.t 160) (.t 159),none,[],[6]⟩]) (BJz)
def BJ0:Cd:=td [161]
def BJw:Cd:=.seq (.reg false [bc 161 .add 151 1,
    mv 151 161]) (BJ0)
def BJu:Cd:=.seq (.block 4 (.seq (.seq (.reg false [ix 153 (.sl (.int .i64)) 149 151,
    ld 154 (.int .i64) 153,
    mv 19 154]) (BJy)) (BJx))) (BJw)
def BJt:Cd:=.seq (.cond (.t 152) (.seq (td [152]) (BJv)) (.seq (td [152]) (BJ1))) (BJu)
def BJs:Cd:=.tidy [19] [] [] (some 7)
def AM3:Cd:=.seq (.seq (.reg false [bi 152 .lss 151 150]) (BJt)) (BJs)
def BJq:Cd:=.block 3 (.loop (AM3))
def BJ3:Cd:=td [162]
def BJ2:Cd:=.ret
def AM2:Cd:=.seq (.seq (.reg false [ld 162 Zb 15,
    sr Zb 6 162,
    ci 7 0]) (BJ3)) (BJ2)
def AM0:Cd:=.seq (.seq (.seq (.reg false [fa 148 Zz 7 5,
    o_ 149 (.load (.d (.sl (.int .i64))) (.t 148)),
    le 150 149,
    ci 151 0]) (BJr)) (BJq)) (AM2)
def BJc:Cd:=.seq (.seq (.seq (.reg false [fa 134 Zz 5 5,
    o_ 135 (.load (.d (.sl (.int .i64))) (.t 134)),
    le 136 135,
    ci 137 0]) (BJf)) (BJe)) (AM0)
def BJa:Cd:=.seq (.seq (.reg true [od 124 (.fieldAddr (.d Zb) 2 (.t 15)) [4] [],
    od 125 (.load (.d (.sl (.int .i64))) (.t 124)) [4] [],
    mv 126 1,
    od 127 (.fieldAddr (.d Zb) 2 (.t 15)) [4] [],
    od 128 (.load (.d (.sl (.int .i64))) (.t 127)) [4] [],
    mv 129 8,
    mv 130 12,
    mv 131 13,
    od 132 (.index (.sl (.int .i64)) (.t 125) (.t 126)) [5] [],
    ⟨none,.store (.d (.int .i64)) (.t 132) (.t 130),none,[],[5]⟩,
    od 133 (.index (.sl (.int .i64)) (.t 128) (.t 129)) [5] [],
    ⟨none,.store (.d (.int .i64)) (.t 133) (.t 131),none,[],[5]⟩]) (BJd)) (BJc)
def BI3:Cd:=.seq (.seq (.reg false [ld 122 Zb 3,
    o_ 123 (.call (.f 118) [(.t 122)] [.d Zb] [((0,[2]),5),((0,[3]),6)] false),
    nb 15 4 Zb,
    sr Zb 15 123]) (BJb)) (BJa)
def BI1:Cd:=.seq (.seq (.seq (.reg false [mv 118 14,
    bc 119 .neq 118 0]) (BI5)) (BI4)) (BI3)
def BIu:Cd:=.seq (.seq (.reg true [od 100 (.fieldAddr (.d Zb) 2 (.t 3)) [0] [],
    od 101 (.load (.d (.sl (.int .i64))) (.t 100)) [0] [],
    mv 102 1,
    ix 103 (.sl (.int .i64)) 101 102,
    ld 104 (.int .i64) 103,
    od 105 (.fieldAddr (.d Zb) 2 (.t 3)) [0] [],
    od 106 (.load (.d (.sl (.int .i64))) (.t 105)) [0] [],
    mv 107 8,
    ix 108 (.sl (.int .i64)) 106 107,
    ld 109 (.int .i64) 108,
    od 110 (.fieldAddr (.d Zz) 6 (.t 5)) [1] [],
    od 111 (.load (.d (.int .i64)) (.t 110)) [1] [],
    od 112 (.fieldAddr (.d Zz) 8 (.t 5)) [1] [],
    od 113 (.load (.d (.int .i64)) (.t 112)) [1] [],
    o_ 114 (.call (.f 117) [(.t 104),(.t 109),(.t 111),(.t 113)] [.d (.int .i64),.d (.int .i64),.d (.int .i64)] [] false),
    mv 99 114,
    xt 115 99 0,
    xt 116 99 1,
    xt 117 99 2,
    mv 12 115,
    mv 13 116,
    mv 14 117]) (BI2)) (BI1)
def BIs:Cd:=.seq (.seq (.seq (.reg true [od 83 (.load (.d Zb) (.t 3)) [0] [],
    mv 84 1,
    o_ 85 (.call (.f 111) [(.t 84)] [.d Za] [] false),
    o_ 86 (.call (.f 102) [(.t 83),(.t 85)] [.d (.int .i64)] [] false),
    mv 87 11,
    bi 88 .lss 86 87,
    mv 89 88,
    ogd 90 (.load (.d Zb) (.t 3)) 89 false [0],
    og 91 (.move (.t 8)) 89 false,
    og 92 (.call (.f 111) [(.t 91)] [.d Za] [] false) 89 false,
    og 93 (.call (.f 102) [(.t 90),(.t 92)] [.d (.int .i64)] [] false) 89 false,
    og 94 (.move (.t 11)) 89 false,
    og 95 (.neg (.t 94)) 89 false,
    og 96 (.bin .lss (.t 93) (.t 95)) 89 false,
    o_ 97 (.pick (.t 89) (.c .bool true) (.t 96))]) (BIw)) (BIv)) (BIu)
def BVs:Cd:=.seq (.seq (.reg false [fa 76 Zz 7 5,
    o_ 77 (.load (.d (.sl (.int .i64))) (.t 76)),
    le 78 77,
    fa 79 Zz 5 5,
    o_ 80 (.load (.d (.sl (.int .i64))) (.t 79)),
    le 81 80,
    bi 82 .sub 78 81,
    mv 11 82]) (BIt)) (BIs)
def BVq:Cd:=.seq (.block 0 (.seq (.seq (.reg false [ld 30 Zb 3,
    mv 31 8,
    o_ 32 (.call (.f 110) [(.t 30),(.t 31)] [.d .bool] [] false),
    nt 33 32,
    mv 34 33,
    og 35 (.move (.t 9)) 34 false,
    og 36 (.func 115 [(.t 3)]) 34 false,
    og 37 (.call (.f 80) [(.t 35),(.t 36)] [.d .bool] [] false) 34 false,
    o_ 38 (.pick (.t 34) (.c .bool true) (.t 37)),
    mv 29 38]) (BVu)) (BVt))) (BVs)
def BVo:Cd:=.seq (.seq (.reg false [o_ 28 (.func 113 [(.t 3)]),
    mv 10 28]) (BVr)) (BVq)
def BVn:Cd:=.seq (.seq (.reg true [od 20 (.fieldAddr (.d Zz) 4 (.t 5)) [1] [],
    od 21 (.load (.d (.int .i64)) (.t 20)) [1] [],
    od 22 (.fieldAddr (.d Zz) 5 (.t 5)) [1] [],
    od 23 (.load (.d (.sl (.int .i64))) (.t 22)) [1] [],
    od 24 (.fieldAddr (.d Zz) 7 (.t 5)) [1] [],
    od 25 (.load (.d (.sl (.int .i64))) (.t 24)) [1] [],
    od 26 (.slice 3 (.sl (.int .i64)) [(.t 23),(.t 25)]) [] [3],
    od 27 (.call (.f 112) [(.t 26)] [.d (.sl (.int .i64))] [] false) [] [3],
    mv 8 21,
    mv 9 27]) (BVp)) (BVo)
def Xa.fn:Fn:=⟨3,[.cell 6 (.d Zb),.tmp 7],.seq (.reg false [bx 3 0 0,
    bx 5 1 2,
    nb 6 2 Zb,
    ci 7 0]) (BVn)⟩
def BXk:Cd:=td [7]
def BXn:Cd:=td [9,10]
def BXm:Cd:=.ret
def BXl:Cd:=.seq (.seq (.reg false [mv 9 2,
    o_ 10 (.build Z9 [(0,(.t 9))] []),
    sr Z9 6 10]) (BXn)) (BXm)
def BXo:Cd:=.skip
def BXj:Cd:=.cond (.t 8) (.seq (td [8]) (BXl)) (.seq (td [8]) (BXo))
def BXq:Cd:=td [11,12,13]
def BXp:Cd:=.ret
def BXi:Cd:=.seq (.seq (.reg false [mv 11 0,
    mv 12 1,
    o_ 13 (.build Z9 [(1,(.t 11)),(2,(.t 12))] []),
    sr Z9 6 13]) (BXq)) (BXp)
def BXh:Cd:=.seq (.seq (.seq (.reg false [mv 7 2,
    bc 8 .neq 7 0]) (BXk)) (BXj)) (BXi)
def Yt.fn:Fn:=⟨3,[.cell 6 (.d Z9)],.seq (.reg false [nb 6 0 Z9]) (BXh)⟩
def BX8:Cd:=td [11,12,13,14,15,16,17,18]
def BYa:Cd:=td [19,20,21,22,23]
def BX9:Cd:=.ret
def BX7:Cd:=.seq (.seq (.reg true [od 19 (.load (.d Zb) (.t 9)) [4] [],
    od 20 (.fieldAddr (.d Zz) 0 (.t 6)) [1] [],
    od 21 (.load (.d (.int .i64)) (.t 20)) [1] [],
    mv 22 10,
    o_ 23 (.call (.f 83) [(.t 21),(.c (.int .i64) (0:Int)),(.t 22)] [.d Z9] [] false),
    ⟨none,.store (.d Zb) (.t 7) (.t 19),none,[],[2]⟩,
    ⟨none,.store (.d Z9) (.t 8) (.t 23),none,[],[3]⟩]) (BYa)) (BX9)
def BX6:Cd:=.seq (.seq (.reg false [o_ 12 (.load (.v false 1) (.t 3)),
    ld 13 Zb 4,
    mv 14 1,
    ld 15 Zz 6,
    o_ 16 (.call (.t 12) [(.t 13),(.t 14),(.t 15)] [.d Zb,.d (.int .i64)] [] false),
    mv 11 16,
    xt 17 11 0,
    xt 18 11 1,
    nb 9 4 Zb,
    sr Zb 9 17,
    mv 10 18]) (BX8)) (BX7)
def Q9.fn:Fn:=⟨4,[.cell 7 (.d Zb),.cell 8 (.d Z9)],.seq (.reg false [bx 4 0 0,
    bx 6 1 2,
    nb 7 2 Zb,
    nb 8 3 Z9]) (BX6)⟩
def AVa:Cd:=td [8,9]
def AVc:Cd:=td [10,11,12,13,14]
def AVe:Cd:=td [15]
def AVd:Cd:=.ret
def AVb:Cd:=.seq (.seq (.reg false [ld 15 Zb 7,
    sr Zb 6 15]) (AVe)) (AVd)
def AU9:Cd:=.seq (.seq (.reg false [fa 10 Zb 3 7,
    ld 11 (.sl Za) 10,
    mv 12 1,
    ld 13 Za 5,
    ix 14 (.sl Za) 11 12,
    sr Za 14 13]) (AVc)) (AVb)
def AU8:Cd:=.seq (.seq (.reg false [ld 8 Zb 3,
    o_ 9 (.call (.f 118) [(.t 8)] [.d Zb] [((0,[3]),4)] false),
    nb 7 3 Zb,
    sr Zb 7 9]) (AVa)) (AU9)
def Hq.fn:Fn:=⟨3,[.cell 6 (.d Zb)],.seq (.reg false [bx 3 0 0,
    bx 5 1 2,
    nb 6 2 Zb]) (AU8)⟩
def BVg:Cd:=td [11,12,13,14,15,16,17,18,19,20]
def BVj:Cd:=td [21]
def BVi:Cd:=.ret
def BVh:Cd:=.seq (.seq (.reg false [ld 21 Zb 4,
    sr Zb 8 21,
    ci 9 3]) (BVj)) (BVi)
def BVm:Cd:=td [23,24,25]
def BHm:Cd:=td [26]
def BHl:Cd:=.ret
def BHk:Cd:=.seq (.seq (.reg false [ld 26 Zb 4,
    sr Zb 8 26,
    ci 9 12]) (BHm)) (BHl)
def BHp:Cd:=td [28,29,30,31,32,33,34,35,36,37,38,39,40,41,42,43,44,45,46,47,48]
def BHs:Cd:=td [49]
def BHr:Cd:=.ret
def BHq:Cd:=.seq (.seq (.reg false [ld 49 Zb 4,
    sr Zb 8 49,
    ci 9 5]) (BHs)) (BHr)
def BHv:Cd:=td [51,52,53,54,55]
def BHy:Cd:=td [56]
def BHx:Cd:=.ret
def BHw:Cd:=.seq (.seq (.reg false [ld 56 Zb 4,
    sr Zb 8 56,
    ci 9 9]) (BHy)) (BHx)
def BHz:Cd:=.skip
def BHu:Cd:=.cond (.t 50) (.seq (td [50]) (BHw)) (.seq (td [50]) (BHz))
def BHt:Cd:=.seq (.seq (.reg true [od 51 (.load (.d Zb) (.t 4)) [0] [],
    mv 52 3,
    o_ 53 (.call (.f 111) [(.t 52)] [.d Za] [] false),
    o_ 54 (.call (.f 102) [(.t 51),(.t 53)] [.d (.int .i64)] [] false),
    bc 55 .lss 54 1,
    mv 50 55]) (BHv)) (BHu)
def BHo:Cd:=.cond (.t 27) (.seq (td [27]) (BHq)) (.seq (td [27]) (BHt))
def BHn:Cd:=.seq (.seq (.reg true [od 28 (.fieldAddr (.d Zb) 1 (.t 4)) [0] [],
    od 29 (.load (.d (.sl (.int .i64))) (.t 28)) [0] [],
    mv 30 3,
    ix 31 (.sl (.int .i64)) 29 30,
    ld 32 (.int .i64) 31,
    od 33 (.fieldAddr (.d Zb) 1 (.t 4)) [0] [],
    od 34 (.load (.d (.sl (.int .i64))) (.t 33)) [0] [],
    mv 35 1,
    ix 36 (.sl (.int .i64)) 34 35,
    ld 37 (.int .i64) 36,
    bi 38 .neq 32 37,
    mv 39 38,
    ogd 40 (.fieldAddr (.d Zb) 3 (.t 4)) 39 false [0],
    ogd 41 (.load (.d (.sl Za)) (.t 40)) 39 false [0],
    og 42 (.move (.t 2)) 39 false,
    og 43 (.index (.sl Za) (.t 41) (.t 42)) 39 false,
    og 44 (.load (.d Za) (.t 43)) 39 false,
    og 45 (.move (.t 1)) 39 false,
    og 46 (.call (.f 111) [(.t 45)] [.d Za] [] false) 39 false,
    og 47 (.eqs Za true (.t 44) (.t 46)) 39 false,
    o_ 48 (.pick (.t 39) (.c .bool true) (.t 47)),
    mv 27 48]) (BHp)) (BHo)
def BVl:Cd:=.cond (.t 22) (.seq (td [22]) (BHk)) (.seq (td [22]) (BHn))
def BVk:Cd:=.seq (.seq (.reg false [mv 23 3,
    mv 24 1,
    bi 25 .eql 23 24,
    mv 22 25]) (BVm)) (BVl)
def BVf:Cd:=.cond (.t 10) (.seq (td [10]) (BVh)) (.seq (td [10]) (BVk))
def BH1:Cd:=td [57,58,59,60,61]
def BH0:Cd:=.ret
def BVe:Cd:=.seq (.seq (.reg true [od 57 (.load (.d Zb) (.t 4)) [0] [],
    mv 58 2,
    mv 59 3,
    o_ 60 (.call (.f 111) [(.t 59)] [.d Za] [] false),
    o_ 61 (.call (.f 103) [(.t 57),(.t 58),(.t 60)] [.d Zb] [] false),
    ⟨none,.store (.d Zb) (.t 8) (.t 61),none,[],[1]⟩,
    ci 9 0]) (BH1)) (BH0)
def BVd:Cd:=.seq (.block 0 (.seq (.seq (.reg false [ld 11 Zb 4,
    mv 12 2,
    o_ 13 (.call (.f 109) [(.t 11),(.t 12)] [.d .bool] [] false),
    nt 14 13,
    mv 15 14,
    og 16 (.load (.d Zb) (.t 4)) 15 false,
    og 17 (.move (.t 3)) 15 false,
    og 18 (.call (.f 110) [(.t 16),(.t 17)] [.d .bool] [] false) 15 false,
    og 19 (.not (.t 18)) 15 false,
    o_ 20 (.pick (.t 15) (.c .bool true) (.t 19)),
    mv 10 20]) (BVg)) (BVf))) (BVe)
def V2.fn:Fn:=⟨4,[.cell 8 (.d Zb),.tmp 9],.seq (.reg false [bx 4 0 0,
    nb 8 1 Zb,
    ci 9 0]) (BVd)⟩
def BVc:Cd:=td [8,9,10,11,12,13,14,15,16]
def BVb:Cd:=.ret
def BVa:Cd:=.seq (.seq (.reg false [ld 8 Zb 3,
    mv 9 1,
    fa 10 Zz 2 5,
    ld 11 (.int .i64) 10,
    fa 12 Zz 4 5,
    ld 13 (.int .i64) 12,
    o_ 14 (.call (.f 65) [(.t 8),(.t 9),(.t 11),(.t 13)] [.d Zb,.d (.int .i64)] [] false),
    xt 15 14 0,
    xt 16 14 1,
    sr Zb 6 15,
    mv 7 16]) (BVc)) (BVb)
def Q7.fn:Fn:=⟨3,[.cell 6 (.d Zb),.tmp 7],.seq (.reg false [bx 3 0 0,
    bx 5 1 2,
    nb 6 2 Zb,
    ci 7 0]) (BVa)⟩
def BY4:Cd:=td [5,6,7,8,9,10,11,12,13]
def BY3:Cd:=.ret
def BY2:Cd:=.seq (.seq (.reg false [mv 5 1,
    bc 6 .lss 5 0,
    mv 7 6,
    og 8 (.move (.t 1)) 7 false,
    og 9 (.fieldAddr (.d Zb) 3 (.t 2)) 7 false,
    og 10 (.load (.d (.sl Za)) (.t 9)) 7 false,
    og 11 (.len (.t 10)) 7 false,
    og 12 (.bin .geq (.t 8) (.t 11)) 7 false,
    o_ 13 (.pick (.t 7) (.c .bool true) (.t 12)),
    mv 4 13]) (BY4)) (BY3)
def Jh.fn:Fn:=⟨2,[.tmp 4],.seq (.reg false [bx 2 0 0,
    o_ 4 (.move (.c .bool false))]) (BY2)⟩
def AVh:Cd:=td [4,5,6,7,8,9,10,11]
def AVg:Cd:=.ret
def AVf:Cd:=.seq (.seq (.reg false [ld 4 Zb 0,
    ld 5 (.int .i64) 1,
    o_ 6 (.call (.f 92) [(.t 4),(.t 5)] [.d .bool] [] false),
    mv 7 6,
    og 8 (.load (.d Zb) (.t 0)) 7 false,
    og 9 (.load (.d (.int .i64)) (.t 2)) 7 false,
    og 10 (.call (.f 92) [(.t 8),(.t 9)] [.d .bool] [] false) 7 false,
    o_ 11 (.pick (.t 7) (.c .bool true) (.t 10)),
    mv 3 11]) (AVh)) (AVg)
def Y1.fn:Fn:=⟨3,[.tmp 3],.seq (.reg false [o_ 3 (.move (.c .bool false))]) (AVf)⟩
def BZa:Cd:=td [8,9,10]
def BZc:Cd:=td [11,12,13,14,15,16,17,18,19,20,21,22,23,24]
def BZb:Cd:=.ret
def BY9:Cd:=.seq (.seq (.reg true [od 11 (.load (.d Za) (.t 7)) [1] [],
    od 12 (.fieldAddr (.d Zb) 1 (.t 3)) [0] [],
    od 13 (.load (.d (.sl (.int .i64))) (.t 12)) [0] [],
    mv 14 1,
    ix 15 (.sl (.int .i64)) 13 14,
    ld 16 (.int .i64) 15,
    o_ 17 (.build Za [(0,(.c (.int .i64) (0:Int))),(1,(.t 16))] []),
    o_ 18 (.eqs Za false (.t 11) (.t 17)),
    mv 19 18,
    ogd 20 (.load (.d Za) (.t 7)) 19 false [1],
    og 21 (.move (.t 1)) 19 false,
    og 22 (.build Za [(0,(.c (.int .i64) (1:Int))),(1,(.t 21))] []) 19 false,
    og 23 (.eqs Za false (.t 20) (.t 22)) 19 false,
    o_ 24 (.pick (.t 19) (.c .bool true) (.t 23)),
    mv 6 24]) (BZc)) (BZb)
def BY8:Cd:=.seq (.seq (.reg false [ld 8 Zb 3,
    mv 9 2,
    o_ 10 (.call (.f 31) [(.t 8),(.t 9)] [.d Za] [] false),
    nb 7 1 Za,
    sr Za 7 10]) (BZa)) (BY9)
def Vf.fn:Fn:=⟨3,[.tmp 6],.seq (.reg false [bx 3 0 0,
    o_ 6 (.move (.c .bool false))]) (BY8)⟩
def AVk:Cd:=td [4,5,6,7,8]
def AVj:Cd:=.ret
def AVi:Cd:=.seq (.seq (.reg false [ld 4 Zb 0,
    ld 5 (.int .i64) 1,
    ld 6 (.int .i64) 2,
    o_ 7 (.call (.f 94) [(.t 4),(.t 5),(.t 6)] [.d .bool] [] false),
    nt 8 7,
    mv 3 8]) (AVk)) (AVj)
def Ja.fn:Fn:=⟨3,[.tmp 3],.seq (.reg false [o_ 3 (.move (.c .bool false))]) (AVi)⟩
def AVn:Cd:=td [3,4,5,6,7,8,9]
def AVm:Cd:=.ret
def AVl:Cd:=.seq (.seq (.reg false [fa 3 Zb 0 0,
    fa 4 Z3 4 3,
    ld 5 (.sl .bool) 4,
    ld 6 (.int .i64) 1,
    ix 7 (.sl .bool) 5 6,
    ld 8 .bool 7,
    nt 9 8,
    mv 2 9]) (AVn)) (AVm)
def Jb.fn:Fn:=⟨2,[.tmp 2],.seq (.reg false [o_ 2 (.move (.c .bool false))]) (AVl)⟩
def AVq:Cd:=td [4,5,6,7,8,9,10]
def AVp:Cd:=.ret
def AVo:Cd:=.seq (.seq (.reg true [fa 4 Zb 3 0,
    ld 5 (.sl Za) 4,
    ld 6 (.int .i64) 1,
    ix 7 (.sl Za) 5 6,
    ld 8 Za 7,
    ld 9 Za 2,
    o_ 10 (.eqs Za true (.t 8) (.t 9)),
    mv 3 10]) (AVq)) (AVp)
def Jc.fn:Fn:=⟨3,[.tmp 3],.seq (.reg false [o_ 3 (.move (.c .bool false))]) (AVo)⟩
def AVt:Cd:=td [3,4,5,6]
def AVs:Cd:=.ret
def AVr:Cd:=.seq (.seq (.reg false [ld 3 Zb 0,
    ld 4 Za 1,
    o_ 5 (.call (.f 102) [(.t 3),(.t 4)] [.d (.int .i64)] [] false),
    bc 6 .lss 5 1,
    mv 2 6]) (AVt)) (AVs)
def Jd.fn:Fn:=⟨2,[.tmp 2],.seq (.reg false [o_ 2 (.move (.c .bool false))]) (AVr)⟩
def BYw:Cd:=.skip
def BLm:Cd:=.exit 0
def BLe:Cd:=td [9,10]
def BLg:Cd:=td [11,12]
def BLj:Cd:=td [14,15]
def BLi:Cd:=.ret
def BLh:Cd:=.seq (.seq (.reg false [o_ 14 (.fieldAddr (.v [1,1]) 1 (.t 4)),
    ld 15 (.int .i64) 14,
    mv 2 15]) (BLj)) (BLi)
def BLk:Cd:=.skip
def BLf:Cd:=.cond (.t 13) (.seq (td [13]) (BLh)) (.seq (td [13]) (BLk))
def BYy:Cd:=.seq (.seq (.reg false [o_ 11 (.fieldAddr (.v [1,1]) 0 (.t 4)),
    o_ 12 (.load (.v false 1) (.t 11)),
    o_ 13 (.call (.t 12) [] [.d .bool] [] false)]) (BLg)) (BLf)
def BLl:Cd:=td [16]
def BYx:Cd:=.seq (.reg false [bc 16 .add 7 1,
    mv 7 16]) (BLl)
def BYv:Cd:=.seq (.block 1 (.seq (.seq (.reg false [o_ 9 (.index (.slv 2) (.t 5) (.t 7)),
    o_ 10 (.load (.v true 2) (.t 9)),
    o_ 4 (.newboxv 0 (.agv [.nilfn,.dat (.int .i64) 0 []])),
    on_ (.store (.v true 2) (.t 4) (.t 10))]) (BLe)) (BYy))) (BYx)
def BYu:Cd:=.seq (.cond (.t 8) (.seq (td [8]) (BYw)) (.seq (td [8]) (BLm))) (BYv)
def BYt:Cd:=.tidy [4] [] [] (some 0)
def BYs:Cd:=.seq (.seq (.reg false [bi 8 .lss 7 6]) (BYu)) (BYt)
def BYr:Cd:=.block 0 (.loop (BYs))
def BLn:Cd:=.ret
def BYq:Cd:=.seq (.reg false [ci 2 0]) (BLn)
def BYp:Cd:=.seq (.seq (.reg false [mv 5 0,
    le 6 5,
    ci 7 0]) (BYr)) (BYq)
def Ql.fn:Fn:=⟨1,[.tmp 2],.seq (.reg false [ci 2 0]) (BYp)⟩
def BU2:Cd:=td [13,14,15,16]
def BU4:Cd:=td [17,18,19,20,21,22,23,24,25,26,27,28]
def BU7:Cd:=td [29]
def BHg:Cd:=td [31,32]
def BU9:Cd:=.ret
def BU8:Cd:=.seq (.seq (.reg false [ld 31 Zb 4,
    mv 32 12,
    sr Zb 8 31,
    mv 9 32]) (BHg)) (BU9)
def BHh:Cd:=.skip
def BU6:Cd:=.cond (.t 30) (.seq (td [30]) (BU8)) (.seq (td [30]) (BHh))
def BHj:Cd:=td [33,34,35,36]
def BHi:Cd:=.ret
def BU5:Cd:=.seq (.seq (.reg false [ld 33 Zb 4,
    ld 34 (.int .i64) 6,
    ld 35 Za 10,
    o_ 36 (.call (.f 103) [(.t 33),(.t 34),(.t 35)] [.d Zb] [] false),
    sr Zb 8 36,
    ci 9 0]) (BHj)) (BHi)
def BU3:Cd:=.seq (.seq (.seq (.reg false [mv 29 12,
    bc 30 .neq 29 0]) (BU7)) (BU6)) (BU5)
def BU1:Cd:=.seq (.seq (.reg false [o_ 17 (.func 104 [(.t 4),(.t 6),(.t 7)]),
    o_ 18 (.buildv [1,1] [(.t 17),(.c (.int .i64) (3:Int))]),
    o_ 19 (.func 105 [(.t 4),(.t 5),(.t 7)]),
    o_ 20 (.buildv [1,1] [(.t 19),(.c (.int .i64) (5:Int))]),
    o_ 21 (.func 106 [(.t 4),(.t 7)]),
    o_ 22 (.buildv [1,1] [(.t 21),(.c (.int .i64) (6:Int))]),
    o_ 23 (.func 107 [(.t 4),(.t 6),(.t 11)]),
    o_ 24 (.buildv [1,1] [(.t 23),(.c (.int .i64) (5:Int))]),
    o_ 25 (.func 108 [(.t 4),(.t 10)]),
    o_ 26 (.buildv [1,1] [(.t 25),(.c (.int .i64) (9:Int))]),
    o_ 27 (.slicev 2 [(.t 18),(.t 20),(.t 22),(.t 24),(.t 26)]),
    o_ 28 (.call (.f 90) [(.t 27)] [.d (.int .i64)] [] false),
    mv 12 28]) (BU4)) (BU3)
def BU0:Cd:=.seq (.seq (.reg true [od 13 (.load (.d (.int .i64)) (.t 5)) [1] [],
    o_ 14 (.build Za [(0,(.c (.int .i64) (1:Int))),(1,(.t 13))] []),
    od 15 (.load (.d (.int .i64)) (.t 7)) [3] [],
    o_ 16 (.build Za [(0,(.c (.int .i64) (2:Int))),(1,(.t 15))] []),
    od 10 (.newbox 5 Za []) [] [5],
    od 11 (.newbox 6 Za []) [] [6],
    ⟨none,.store (.d Za) (.t 10) (.t 14),none,[],[5]⟩,
    ⟨none,.store (.d Za) (.t 11) (.t 16),none,[],[6]⟩]) (BU2)) (BU1)
def V1.fn:Fn:=⟨4,[.cell 8 (.d Zb),.tmp 9],.seq (.reg false [bx 4 0 0,
    bx 5 1 1,
    bx 6 2 2,
    bx 7 3 3,
    nb 8 4 Zb,
    ci 9 0]) (BU0)⟩
def BUz:Cd:=td [8,9,10,11,12,13,14,15,16]
def BUy:Cd:=.ret
def BUx:Cd:=.seq (.seq (.reg false [ld 8 Zb 3,
    mv 9 1,
    fa 10 Zz 2 5,
    ld 11 (.int .i64) 10,
    fa 12 Zz 3 5,
    ld 13 (.int .i64) 12,
    o_ 14 (.call (.f 63) [(.t 8),(.t 9),(.t 11),(.t 13)] [.d Zb,.d (.int .i64)] [] false),
    xt 15 14 0,
    xt 16 14 1,
    sr Zb 6 15,
    mv 7 16]) (BUz)) (BUy)
def Q6.fn:Fn:=⟨3,[.cell 6 (.d Zb),.tmp 7],.seq (.reg false [bx 3 0 0,
    bx 5 1 2,
    nb 6 2 Zb,
    ci 7 0]) (BUx)⟩
def BY1:Cd:=td [4,5,6,7,8,9,10,11]
def BY0:Cd:=.ret
def BYz:Cd:=.seq (.seq (.reg false [ld 4 Zb 0,
    ld 5 (.int .i64) 1,
    o_ 6 (.call (.f 92) [(.t 4),(.t 5)] [.d .bool] [] false),
    mv 7 6,
    og 8 (.load (.d Zb) (.t 0)) 7 false,
    og 9 (.load (.d (.int .i64)) (.t 2)) 7 false,
    og 10 (.call (.f 92) [(.t 8),(.t 9)] [.d .bool] [] false) 7 false,
    o_ 11 (.pick (.t 7) (.c .bool true) (.t 10)),
    mv 3 11]) (BY1)) (BY0)
def Qg.fn:Fn:=⟨3,[.tmp 3],.seq (.reg false [o_ 3 (.move (.c .bool false))]) (BYz)⟩
def BY7:Cd:=td [6,7,8,9,10,11,12,13,14,15,16,17,18,19]
def BY6:Cd:=.ret
def BY5:Cd:=.seq (.seq (.reg true [fa 6 Zb 3 0,
    ld 7 (.sl Za) 6,
    ld 8 (.int .i64) 1,
    ix 9 (.sl Za) 7 8,
    ld 10 Za 9,
    ld 11 Za 2,
    o_ 12 (.eqs Za true (.t 10) (.t 11)),
    mv 13 12,
    og 14 (.load (.d Zb) (.t 0)) 13 false,
    og 15 (.load (.d (.int .i64)) (.t 3)) 13 false,
    og 16 (.load (.d (.int .i64)) (.t 4)) 13 false,
    og 17 (.call (.f 94) [(.t 14),(.t 15),(.t 16)] [.d .bool] [] false) 13 false,
    og 18 (.not (.t 17)) 13 false,
    o_ 19 (.pick (.t 13) (.c .bool true) (.t 18)),
    mv 5 19]) (BY7)) (BY6)
def J1.fn:Fn:=⟨5,[.tmp 5],.seq (.reg false [o_ 5 (.move (.c .bool false))]) (BY5)⟩
def BZf:Cd:=td [3,4,5,6,7,8,9]
def BZe:Cd:=.ret
def BZd:Cd:=.seq (.seq (.reg false [fa 3 Zb 0 0,
    fa 4 Z3 4 3,
    ld 5 (.sl .bool) 4,
    ld 6 (.int .i64) 1,
    ix 7 (.sl .bool) 5 6,
    ld 8 .bool 7,
    nt 9 8,
    mv 2 9]) (BZf)) (BZe)
def J2.fn:Fn:=⟨2,[.tmp 2],.seq (.reg false [o_ 2 (.move (.c .bool false))]) (BZd)⟩
def BZi:Cd:=td [4,5,6,7]
def BZh:Cd:=.ret
def BZg:Cd:=.seq (.seq (.reg false [ld 4 Zb 0,
    ld 5 (.int .i64) 1,
    ld 6 (.int .i64) 2,
    o_ 7 (.call (.f 97) [(.t 4),(.t 5),(.t 6)] [.d .bool] [] false),
    mv 3 7]) (BZi)) (BZh)
def J3.fn:Fn:=⟨3,[.tmp 3],.seq (.reg false [o_ 3 (.move (.c .bool false))]) (BZg)⟩
def BZo:Cd:=td [5,6,7,8,9,10]
def BZn:Cd:=.ret
def BZm:Cd:=.seq (.seq (.reg false [ld 5 Zb 2,
    mv 6 1,
    o_ 7 (.call (.f 72) [(.t 5),(.t 6)] [.clo 123 [.ref Zb,.ref (.int .i64)]] [] false),
    o_ 8 (.call (.f 71) [(.t 7)] [.d (.sl Za)] [] false),
    le 9 8,
    bc 10 .sub 9 1,
    mv 4 10]) (BZo)) (BZn)
def Jy.fn:Fn:=⟨2,[.tmp 4],.seq (.reg false [bx 2 0 0,
    ci 4 0]) (BZm)⟩
def AUv:Cd:=td [7,8]
def AUz:Cd:=.skip
def AP3:Cd:=.exit 0
def APw:Cd:=td [12]
def APy:Cd:=td [13,14,15]
def AP0:Cd:=td [17,18,19,20,21,22,23,24,25]
def APz:Cd:=.seq (.reg true [mv 17 5,
    od 18 (.load (.d Zb) (.t 2)) [0] [],
    mv 19 6,
    o_ 20 (.call (.f 99) [(.t 18),(.t 19)] [.d (.int .i64)] [] false),
    od 21 (.load (.d Zb) (.t 2)) [0] [],
    mv 22 1,
    o_ 23 (.call (.f 99) [(.t 21),(.t 22)] [.d (.int .i64)] [] false),
    bi 24 .sub 20 23,
    o_ 25 (.max [(.t 17),(.t 24)]),
    mv 5 25]) (AP0)
def AP2:Cd:=.skip
def APx:Cd:=.cond (.t 16) (.seq (td [16]) (APz)) (.seq (td [16]) (AP2))
def APv:Cd:=.seq (.seq (.reg false [ld 13 Zb 2,
    mv 14 6,
    mv 15 1,
    o_ 16 (.call (.f 97) [(.t 13),(.t 14),(.t 15)] [.d .bool] [] false)]) (APy)) (APx)
def AP1:Cd:=td [26]
def APu:Cd:=.seq (.reg false [bc 26 .add 10 1,
    mv 10 26]) (AP1)
def AUy:Cd:=.seq (.block 1 (.seq (.seq (.reg false [mv 12 10,
    mv 6 12]) (APw)) (APv))) (APu)
def AUx:Cd:=.seq (.cond (.t 11) (.seq (td [11]) (AUz)) (.seq (td [11]) (AP3))) (AUy)
def AUw:Cd:=.tidy [6] [] [] (some 1)
def AL9:Cd:=.seq (.seq (.reg false [bi 11 .lss 10 9]) (AUx)) (AUw)
def AUu:Cd:=.block 0 (.loop (AL9))
def AP5:Cd:=td [27]
def AP4:Cd:=.ret
def AL8:Cd:=.seq (.seq (.reg false [mv 27 5,
    mv 4 27]) (AP5)) (AP4)
def AUt:Cd:=.seq (.seq (.seq (.reg false [fa 7 Zb 3 2,
    ld 8 (.sl Za) 7,
    le 9 8,
    ci 10 0]) (AUv)) (AUu)) (AL8)
def AUs:Cd:=.seq (.reg false [ci 5 0]) (AUt)
def Xt.fn:Fn:=⟨2,[.tmp 4],.seq (.reg false [bx 2 0 0,
    ci 4 0]) (AUs)⟩
def BZl:Cd:=td [4,5,6,7,8,9,10,11,12]
def BZk:Cd:=.ret
def BZj:Cd:=.seq (.seq (.reg true [ld 4 Zb 0,
    ld 5 (.int .i64) 1,
    o_ 6 (.call (.f 99) [(.t 4),(.t 5)] [.d (.int .i64)] [] false),
    bc 7 .add 6 1,
    ld 8 Zb 0,
    ld 9 (.int .i64) 2,
    o_ 10 (.call (.f 100) [(.t 8),(.t 9)] [.d (.int .i64)] [] false),
    bi 11 .add 7 10,
    bc 12 .gtr 11 4,
    mv 3 12]) (BZl)) (BZk)
def J4.fn:Fn:=⟨3,[.tmp 3],.seq (.reg false [o_ 3 (.move (.c .bool false))]) (BZj)⟩
def AU2:Cd:=td [3,4,5,6]
def AU1:Cd:=.ret
def AU0:Cd:=.seq (.seq (.reg false [ld 3 Zb 0,
    ld 4 Za 1,
    o_ 5 (.call (.f 102) [(.t 3),(.t 4)] [.d (.int .i64)] [] false),
    bc 6 .lss 5 1,
    mv 2 6]) (AU2)) (AU1)
def J5.fn:Fn:=⟨2,[.tmp 2],.seq (.reg false [o_ 2 (.move (.c .bool false))]) (AU0)⟩
def BUp:Cd:=td [13,14,15,16]
def BUr:Cd:=td [17,18,19,20,21,22,23,24,25,26,27,28,29,30]
def BUu:Cd:=td [31]
def BHc:Cd:=td [33,34]
def BUw:Cd:=.ret
def BUv:Cd:=.seq (.seq (.reg false [ld 33 Zb 4,
    mv 34 12,
    sr Zb 8 33,
    mv 9 34]) (BHc)) (BUw)
def BHd:Cd:=.skip
def BUt:Cd:=.cond (.t 32) (.seq (td [32]) (BUv)) (.seq (td [32]) (BHd))
def BHf:Cd:=td [35,36,37,38]
def BHe:Cd:=.ret
def BUs:Cd:=.seq (.seq (.reg false [ld 35 Zb 4,
    ld 36 (.int .i64) 6,
    ld 37 Za 11,
    o_ 38 (.call (.f 103) [(.t 35),(.t 36),(.t 37)] [.d Zb] [] false),
    sr Zb 8 38,
    ci 9 0]) (BHf)) (BHe)
def BUq:Cd:=.seq (.seq (.seq (.reg false [mv 31 12,
    bc 32 .neq 31 0]) (BUu)) (BUt)) (BUs)
def BUo:Cd:=.seq (.seq (.reg false [o_ 17 (.func 91 [(.t 4),(.t 6),(.t 7)]),
    o_ 18 (.buildv [1,1] [(.t 17),(.c (.int .i64) (3:Int))]),
    o_ 19 (.func 93 [(.t 4),(.t 6),(.t 10),(.t 5),(.t 7)]),
    o_ 20 (.buildv [1,1] [(.t 19),(.c (.int .i64) (5:Int))]),
    o_ 21 (.func 95 [(.t 4),(.t 7)]),
    o_ 22 (.buildv [1,1] [(.t 21),(.c (.int .i64) (6:Int))]),
    o_ 23 (.func 96 [(.t 4),(.t 7),(.t 6)]),
    o_ 24 (.buildv [1,1] [(.t 23),(.c (.int .i64) (7:Int))]),
    o_ 25 (.func 98 [(.t 4),(.t 7),(.t 6)]),
    o_ 26 (.buildv [1,1] [(.t 25),(.c (.int .i64) (8:Int))]),
    o_ 27 (.func 101 [(.t 4),(.t 11)]),
    o_ 28 (.buildv [1,1] [(.t 27),(.c (.int .i64) (9:Int))]),
    o_ 29 (.slicev 2 [(.t 18),(.t 20),(.t 22),(.t 24),(.t 26),(.t 28)]),
    o_ 30 (.call (.f 90) [(.t 29)] [.d (.int .i64)] [] false),
    mv 12 30]) (BUr)) (BUq)
def BUn:Cd:=.seq (.seq (.reg true [od 13 (.load (.d (.int .i64)) (.t 5)) [1] [],
    o_ 14 (.build Za [(0,(.c (.int .i64) (1:Int))),(1,(.t 13))] []),
    od 15 (.load (.d (.int .i64)) (.t 7)) [3] [],
    o_ 16 (.build Za [(0,(.c (.int .i64) (2:Int))),(1,(.t 15))] []),
    od 10 (.newbox 5 Za []) [] [5],
    od 11 (.newbox 6 Za []) [] [6],
    ⟨none,.store (.d Za) (.t 10) (.t 14),none,[],[5]⟩,
    ⟨none,.store (.d Za) (.t 11) (.t 16),none,[],[6]⟩]) (BUp)) (BUo)
def Kp.fn:Fn:=⟨4,[.cell 8 (.d Zb),.tmp 9],.seq (.reg false [bx 4 0 0,
    bx 5 1 1,
    bx 6 2 2,
    bx 7 3 3,
    nb 8 4 Zb,
    ci 9 0]) (BUn)⟩
def BUm:Cd:=td [8,9,10,11,12,13,14,15,16]
def BUl:Cd:=.ret
def BUk:Cd:=.seq (.seq (.reg false [ld 8 Zb 3,
    mv 9 1,
    fa 10 Zz 2 5,
    ld 11 (.int .i64) 10,
    fa 12 Zz 3 5,
    ld 13 (.int .i64) 12,
    o_ 14 (.call (.f 61) [(.t 8),(.t 9),(.t 11),(.t 13)] [.d Zb,.d (.int .i64)] [] false),
    xt 15 14 0,
    xt 16 14 1,
    sr Zb 6 15,
    mv 7 16]) (BUm)) (BUl)
def Q5.fn:Fn:=⟨3,[.cell 6 (.d Zb),.tmp 7],.seq (.reg false [bx 3 0 0,
    bx 5 1 2,
    nb 6 2 Zb,
    ci 7 0]) (BUk)⟩
def BYd:Cd:=td [6,7,8,9,10,11,12,13]
def BYc:Cd:=.ret
def BYb:Cd:=.seq (.seq (.reg false [fa 6 Zb 1 2,
    o_ 7 (.load (.d (.sl (.int .i64))) (.t 6)),
    mv 8 1,
    ix 9 (.sl (.int .i64)) 7 8,
    ld 10 (.int .i64) 9,
    o_ 11 (.build Za [(0,(.c (.int .i64) (0:Int))),(1,(.t 10))] []),
    mv 12 1,
    o_ 13 (.build Za [(0,(.c (.int .i64) (1:Int))),(1,(.t 12))] []),
    sr Za 4 11,
    sr Za 5 13]) (BYd)) (BYc)
def Jn.fn:Fn:=⟨2,[.cell 4 (.d Za),.cell 5 (.d Za)],.seq (.reg false [bx 2 0 0,
    nb 4 1 Za,
    nb 5 2 Za]) (BYb)⟩
def BYh:Cd:=td [11,12,13,14,15,16,17,18,19]
def BYk:Cd:=td [20]
def BYj:Cd:=.ret
def BYi:Cd:=.seq (.seq (.reg false [ld 20 Zb 4,
    sr Zb 8 20,
    ci 9 3]) (BYk)) (BYj)
def BYn:Cd:=td [22,23,24,25,26,27,28]
def BK4:Cd:=td [29]
def BK3:Cd:=.ret
def BK2:Cd:=.seq (.seq (.reg false [ld 29 Zb 4,
    sr Zb 8 29,
    ci 9 5]) (BK4)) (BK3)
def BK7:Cd:=td [31,32,33,34]
def BLa:Cd:=td [35]
def BK9:Cd:=.ret
def BK8:Cd:=.seq (.seq (.reg false [ld 35 Zb 4,
    sr Zb 8 35,
    ci 9 9]) (BLa)) (BK9)
def BLb:Cd:=.skip
def BK6:Cd:=.cond (.t 30) (.seq (td [30]) (BK8)) (.seq (td [30]) (BLb))
def BK5:Cd:=.seq (.seq (.reg false [ld 31 Zb 4,
    ld 32 Za 7,
    o_ 33 (.call (.f 102) [(.t 31),(.t 32)] [.d (.int .i64)] [] false),
    bc 34 .lss 33 1,
    mv 30 34]) (BK7)) (BK6)
def BYm:Cd:=.cond (.t 21) (.seq (td [21]) (BK2)) (.seq (td [21]) (BK5))
def BYl:Cd:=.seq (.seq (.reg true [od 22 (.fieldAddr (.d Zb) 3 (.t 4)) [0] [],
    od 23 (.load (.d (.sl Za)) (.t 22)) [0] [],
    mv 24 1,
    ix 25 (.sl Za) 23 24,
    ld 26 Za 25,
    od 27 (.load (.d Za) (.t 6)) [1] [],
    o_ 28 (.eqs Za true (.t 26) (.t 27)),
    mv 21 28]) (BYn)) (BYm)
def BYg:Cd:=.cond (.t 10) (.seq (td [10]) (BYi)) (.seq (td [10]) (BYl))
def BLd:Cd:=td [36,37,38,39]
def BLc:Cd:=.ret
def BYf:Cd:=.seq (.seq (.reg false [ld 36 Zb 4,
    mv 37 1,
    ld 38 Za 7,
    o_ 39 (.call (.f 103) [(.t 36),(.t 37),(.t 38)] [.d Zb] [] false),
    sr Zb 8 39,
    ci 9 0]) (BLd)) (BLc)
def BYe:Cd:=.seq (.block 0 (.seq (.seq (.reg false [mv 11 1,
    bc 12 .lss 11 0,
    mv 13 12,
    og 14 (.move (.t 1)) 13 false,
    og 15 (.fieldAddr (.d Zb) 3 (.t 4)) 13 false,
    og 16 (.load (.d (.sl Za)) (.t 15)) 13 false,
    og 17 (.len (.t 16)) 13 false,
    og 18 (.bin .geq (.t 14) (.t 17)) 13 false,
    o_ 19 (.pick (.t 13) (.c .bool true) (.t 18)),
    mv 10 19]) (BYh)) (BYg))) (BYf)
def Kc.fn:Fn:=⟨4,[.cell 8 (.d Zb),.tmp 9],.seq (.reg false [bx 4 0 0,
    bx 6 1 2,
    bx 7 2 3,
    nb 8 3 Zb,
    ci 9 0]) (BYe)⟩
def BUf:Cd:=td [10,11,12,13,14,15]
def BUh:Cd:=td [16,17,18,19,20,21,22]
def BUg:Cd:=.ret
def BUe:Cd:=.seq (.seq (.reg false [ld 16 Zb 3,
    mv 17 2,
    ld 18 Za 9,
    ld 19 Za 8,
    o_ 20 (.call (.f 89) [(.t 16),(.t 17),(.t 18),(.t 19)] [.d Zb,.d (.int .i64)] [] false),
    xt 21 20 0,
    xt 22 20 1,
    sr Zb 6 21,
    mv 7 22]) (BUh)) (BUg)
def BUd:Cd:=.seq (.seq (.reg false [ld 11 Zb 3,
    mv 12 1,
    o_ 13 (.call (.f 88) [(.t 11),(.t 12)] [.d Za,.d Za] [] false),
    mv 10 13,
    xt 14 10 0,
    xt 15 10 1,
    nb 8 2 Za,
    nb 9 3 Za,
    sr Za 8 14,
    sr Za 9 15]) (BUf)) (BUe)
def Ku.fn:Fn:=⟨3,[.cell 6 (.d Zb),.tmp 7],.seq (.reg false [bx 3 0 0,
    nb 6 1 Zb,
    ci 7 0]) (BUd)⟩
def BUc:Cd:=td [8,9,10,11,12,13,14]
def BUb:Cd:=.ret
def BUa:Cd:=.seq (.seq (.reg false [ld 8 Zb 3,
    mv 9 1,
    fa 10 Zz 2 5,
    ld 11 (.int .i64) 10,
    o_ 12 (.call (.f 59) [(.t 8),(.t 9),(.t 11)] [.d Zb,.d (.int .i64)] [] false),
    xt 13 12 0,
    xt 14 12 1,
    sr Zb 6 13,
    mv 7 14]) (BUc)) (BUb)
def Q4.fn:Fn:=⟨3,[.cell 6 (.d Zb),.tmp 7],.seq (.reg false [bx 3 0 0,
    bx 5 1 2,
    nb 6 2 Zb,
    ci 7 0]) (BUa)⟩
def BT7:Cd:=td [10,11,12,13,14,15]
def BT9:Cd:=td [16,17,18,19,20,21,22]
def BT8:Cd:=.ret
def BT6:Cd:=.seq (.seq (.reg false [ld 16 Zb 3,
    mv 17 2,
    ld 18 Za 8,
    ld 19 Za 9,
    o_ 20 (.call (.f 89) [(.t 16),(.t 17),(.t 18),(.t 19)] [.d Zb,.d (.int .i64)] [] false),
    xt 21 20 0,
    xt 22 20 1,
    sr Zb 6 21,
    mv 7 22]) (BT9)) (BT8)
def BT5:Cd:=.seq (.seq (.reg false [ld 11 Zb 3,
    mv 12 1,
    o_ 13 (.call (.f 88) [(.t 11),(.t 12)] [.d Za,.d Za] [] false),
    mv 10 13,
    xt 14 10 0,
    xt 15 10 1,
    nb 8 2 Za,
    nb 9 3 Za,
    sr Za 8 14,
    sr Za 9 15]) (BT7)) (BT6)
def Hy.fn:Fn:=⟨3,[.cell 6 (.d Zb),.tmp 7],.seq (.reg false [bx 3 0 0,
    nb 6 1 Zb,
    ci 7 0]) (BT5)⟩
def BT4:Cd:=td [8,9,10,11,12,13,14]
def BT3:Cd:=.ret
def BT2:Cd:=.seq (.seq (.reg false [ld 8 Zb 3,
    mv 9 1,
    fa 10 Zz 2 5,
    ld 11 (.int .i64) 10,
    o_ 12 (.call (.f 57) [(.t 8),(.t 9),(.t 11)] [.d Zb,.d (.int .i64)] [] false),
    xt 13 12 0,
    xt 14 12 1,
    sr Zb 6 13,
    mv 7 14]) (BT4)) (BT3)
def Q3.fn:Fn:=⟨3,[.cell 6 (.d Zb),.tmp 7],.seq (.reg false [bx 3 0 0,
    bx 5 1 2,
    nb 6 2 Zb,
    ci 7 0]) (BT2)⟩
def BXt:Cd:=td [7]
def BXs:Cd:=.ret
def BXr:Cd:=.seq (.seq (.reg false [o_ 7 (.func 136 [(.t 5),(.t 3),(.t 4)]),
    mv 6 7]) (BXt)) (BXs)
def Kh.fn:Fn:=⟨3,[.tmp 6],.seq (.reg false [bx 3 0 0,
    bx 4 1 1,
    bx 5 2 2,
    o_ 6 (.move .nf)]) (BXr)⟩
def BXz:Cd:=td [5,6,7,8,9,10,11,12,13]
def BX1:Cd:=.ret
def BX0:Cd:=.seq (.reg false [ci 3 3]) (BX1)
def BX4:Cd:=td [15,16,17]
def BKu:Cd:=.ret
def BX5:Cd:=.seq (.reg false [ci 3 12]) (BKu)
def BKx:Cd:=td [19,20,21,22,23,24,25,26,27,28,29]
def BKz:Cd:=.ret
def BKy:Cd:=.seq (.reg false [ci 3 5]) (BKz)
def BK0:Cd:=.skip
def BKw:Cd:=.cond (.t 18) (.seq (td [18]) (BKy)) (.seq (td [18]) (BK0))
def BKv:Cd:=.seq (.seq (.reg true [fa 19 Zb 1 1,
    o_ 20 (.load (.d (.sl (.int .i64))) (.t 19)),
    ld 21 (.int .i64) 0,
    ix 22 (.sl (.int .i64)) 20 21,
    ld 23 (.int .i64) 22,
    fa 24 Zb 1 1,
    o_ 25 (.load (.d (.sl (.int .i64))) (.t 24)),
    ld 26 (.int .i64) 2,
    ix 27 (.sl (.int .i64)) 25 26,
    ld 28 (.int .i64) 27,
    bi 29 .neq 23 28,
    mv 18 29]) (BKx)) (BKw)
def BX3:Cd:=.cond (.t 14) (.seq (td [14]) (BX5)) (.seq (td [14]) (BKv))
def BX2:Cd:=.seq (.seq (.reg false [ld 15 (.int .i64) 0,
    ld 16 (.int .i64) 2,
    bi 17 .eql 15 16,
    mv 14 17]) (BX4)) (BX3)
def BXy:Cd:=.cond (.t 4) (.seq (td [4]) (BX0)) (.seq (td [4]) (BX2))
def BK1:Cd:=.ret
def BXx:Cd:=.seq (.reg false [ci 3 0]) (BK1)
def BXw:Cd:=.seq (.block 0 (.seq (.seq (.reg false [ld 5 (.int .i64) 0,
    bc 6 .lss 5 0,
    mv 7 6,
    og 8 (.load (.d (.int .i64)) (.t 0)) 7 false,
    og 9 (.fieldAddr (.d Zb) 1 (.t 1)) 7 false,
    og 10 (.load (.d (.sl (.int .i64))) (.t 9)) 7 false,
    og 11 (.len (.t 10)) 7 false,
    og 12 (.bin .geq (.t 8) (.t 11)) 7 false,
    o_ 13 (.pick (.t 7) (.c .bool true) (.t 12)),
    mv 4 13]) (BXz)) (BXy))) (BXx)
def J6.fn:Fn:=⟨3,[.tmp 3],.seq (.reg false [ci 3 0]) (BXw)⟩
def AYq:Cd:=td [12,13]
def AYs:Cd:=td [14]
def AYv:Cd:=td [16,17]
def AYu:Cd:=.ret
def AYt:Cd:=.seq (.seq (.reg false [ld 16 Zb 2,
    mv 17 8,
    sr Zb 5 16,
    ci 6 0,
    mv 7 17]) (AYv)) (AYu)
def AYw:Cd:=.skip
def AYr:Cd:=.cond (.t 15) (.seq (td [15]) (AYt)) (.seq (td [15]) (AYw))
def AYp:Cd:=.seq (.seq (.reg false [mv 14 8,
    bc 15 .neq 14 0]) (AYs)) (AYr)
def ARv:Cd:=td [18,19,20,21,22,23,24,25,26,27,28]
def ARy:Cd:=td [29]
def AR1:Cd:=td [31]
def AR0:Cd:=.ret
def ARz:Cd:=.seq (.seq (.reg false [ld 31 Zb 2,
    sr Zb 5 31,
    ci 6 0,
    ci 7 4]) (AR1)) (AR0)
def AR2:Cd:=.skip
def ARx:Cd:=.cond (.t 30) (.seq (td [30]) (ARz)) (.seq (td [30]) (AR2))
def AR4:Cd:=td [32,33]
def AR6:Cd:=td [34,35,36,37,38]
def AR8:Cd:=td [39,40]
def AR7:Cd:=.ret
def AR5:Cd:=.seq (.seq (.reg false [ld 39 Zb 11,
    mv 40 9,
    sr Zb 5 39,
    mv 6 40,
    ci 7 0]) (AR8)) (AR7)
def AR3:Cd:=.seq (.seq (.reg false [fa 34 Zb 1 11,
    o_ 35 (.load (.d (.sl (.int .i64))) (.t 34)),
    mv 36 0,
    mv 37 9,
    ix 38 (.sl (.int .i64)) 35 36,
    sr (.int .i64) 38 37]) (AR6)) (AR5)
def ARw:Cd:=.seq (.seq (.reg false [ld 32 Zb 2,
    o_ 33 (.call (.f 118) [(.t 32)] [.d Zb] [((0,[1]),2)] false),
    nb 11 1 Zb,
    sr Zb 11 33]) (AR4)) (AR3)
def ARu:Cd:=.seq (.seq (.seq (.reg false [mv 29 10,
    nt 30 29]) (ARy)) (ARx)) (ARw)
def AYo:Cd:=.seq (.seq (.reg true [ld 19 Zb 2,
    fa 20 Zb 1 2,
    o_ 21 (.load (.d (.sl (.int .i64))) (.t 20)),
    mv 22 0,
    ix 23 (.sl (.int .i64)) 21 22,
    ld 24 (.int .i64) 23,
    ld 25 (.int .i64) 3,
    o_ 26 (.call (.f 25) [(.t 19),(.t 24),(.t 25)] [.d (.int .i64),.d .bool] [] false),
    mv 18 26,
    xt 27 18 0,
    xt 28 18 1,
    mv 9 27,
    mv 10 28]) (ARv)) (ARu)
def AYn:Cd:=.seq (.seq (.seq (.reg false [o_ 12 (.load (.v false 1) (.t 1)),
    o_ 13 (.call (.t 12) [] [.d (.int .i64)] [] false),
    mv 8 13]) (AYq)) (AYp)) (AYo)
def Jg.fn:Fn:=⟨4,[.cell 5 (.d Zb),.tmp 6,.tmp 7],.seq (.reg false [nb 5 0 Zb,
    ci 6 0,
    ci 7 0]) (AYn)⟩
def BTy:Cd:=.reg true [od 11 (.load (.d Zb) (.t 4)) [0] [],
    mv 12 3,
    o_ 13 (.func 86 [(.t 6),(.t 4),(.t 5)]),
    od 14 (.call (.f 84) [(.t 11),(.t 12),(.t 13)] [.clo 136 [.refv (.clo 86 [.ref (.int .i64),.ref Zb,.ref (.int .i64)]),.ref Zb,.ref (.int .i64)]] [] false) [0,1,2] [],
    od 15 (.load (.d (.int .i64)) (.t 6)) [2] [],
    o_ 16 (.call (.t 14) [(.t 15)] [.d Zb,.d (.int .i64),.d (.int .i64)] [] false),
    xt 17 16 0,
    xt 18 16 1,
    xt 19 16 2,
    ⟨none,.store (.d Zb) (.t 8) (.t 17),none,[],[3]⟩,
    mv 9 18,
    mv 10 19]
def BTx:Cd:=td [11,12,13,14,15,16,17,18,19]
def BTw:Cd:=.ret
def BTv:Cd:=.seq (.seq (.seq (.frz [0,1,2]) (BTy)) (BTx)) (BTw)
def Kx.fn:Fn:=⟨4,[.cell 8 (.d Zb),.tmp 9,.tmp 10],.seq (.reg false [bx 4 0 0,
    bx 5 1 1,
    bx 6 2 2,
    nb 8 3 Zb,
    ci 9 0,
    ci 10 0]) (BTv)⟩
def BTu:Cd:=td [9,10,11,12,13,14,15,16,17,18]
def BTt:Cd:=.ret
def BTs:Cd:=.seq (.seq (.reg false [ld 9 Zb 3,
    mv 10 1,
    fa 11 Zz 4 5,
    ld 12 (.int .i64) 11,
    fa 13 Zz 1 5,
    ld 14 (.int .i64) 13,
    o_ 15 (.call (.f 54) [(.t 9),(.t 10),(.t 12),(.t 14)] [.d Zb,.d (.int .i64),.d (.int .i64)] [] false),
    xt 16 15 0,
    xt 17 15 1,
    xt 18 15 2,
    sr Zb 6 16,
    mv 7 17,
    mv 8 18]) (BTu)) (BTt)
def Q2.fn:Fn:=⟨3,[.cell 6 (.d Zb),.tmp 7,.tmp 8],.seq (.reg false [bx 3 0 0,
    bx 5 1 2,
    nb 6 2 Zb,
    ci 7 0,
    ci 8 0]) (BTs)⟩
def BXe:Cd:=td [12,13,14,15,16,17,18,19,20]
def BXg:Cd:=td [21,22,23,24,25,26]
def BXf:Cd:=.ret
def BXd:Cd:=.seq (.seq (.reg true [od 21 (.load (.d Zb) (.t 9)) [4] [],
    od 22 (.fieldAddr (.d Zz) 0 (.t 6)) [1] [],
    od 23 (.load (.d (.int .i64)) (.t 22)) [1] [],
    mv 24 10,
    mv 25 11,
    o_ 26 (.call (.f 83) [(.t 23),(.t 24),(.t 25)] [.d Z9] [] false),
    ⟨none,.store (.d Zb) (.t 7) (.t 21),none,[],[2]⟩,
    ⟨none,.store (.d Z9) (.t 8) (.t 26),none,[],[3]⟩]) (BXg)) (BXf)
def BXc:Cd:=.seq (.seq (.reg false [o_ 13 (.load (.v false 1) (.t 3)),
    ld 14 Zb 4,
    mv 15 1,
    ld 16 Zz 6,
    o_ 17 (.call (.t 13) [(.t 14),(.t 15),(.t 16)] [.d Zb,.d (.int .i64),.d (.int .i64)] [] false),
    mv 12 17,
    xt 18 12 0,
    xt 19 12 1,
    xt 20 12 2,
    nb 9 4 Zb,
    sr Zb 9 18,
    mv 10 19,
    mv 11 20]) (BXe)) (BXd)
def Q8.fn:Fn:=⟨4,[.cell 7 (.d Zb),.cell 8 (.d Z9)],.seq (.reg false [bx 4 0 0,
    bx 6 1 2,
    nb 7 2 Zb,
    nb 8 3 Z9]) (BXc)⟩
def BXv:Cd:=.ret
def BXu:Cd:=.seq (.reg false [ci 0 0]) (BXv)
def Vq.fn:Fn:=⟨0,[.tmp 0],.seq (.reg false [ci 0 0]) (BXu)⟩
def BTr:Cd:=td [9,10,11,12,13,14,15,16]
def BTq:Cd:=.ret
def BTp:Cd:=.seq (.seq (.reg false [ld 9 Zb 3,
    mv 10 2,
    o_ 11 (.call (.f 84) [(.t 9),(.t 10),(.f 85)] [.clo 136 [.refv (.clo 85 []),.ref Zb,.ref (.int .i64)]] [] false),
    mv 12 1,
    o_ 13 (.call (.t 11) [(.t 12)] [.d Zb,.d (.int .i64),.d (.int .i64)] [] false),
    xt 14 13 0,
    xt 15 13 1,
    xt 16 13 2,
    sr Zb 6 14,
    mv 7 15,
    mv 8 16]) (BTr)) (BTq)
def Kw.fn:Fn:=⟨3,[.cell 6 (.d Zb),.tmp 7,.tmp 8],.seq (.reg false [bx 3 0 0,
    nb 6 1 Zb,
    ci 7 0,
    ci 8 0]) (BTp)⟩
def BTo:Cd:=td [9,10,11,12,13,14,15,16]
def BTn:Cd:=.ret
def BTm:Cd:=.seq (.seq (.reg false [ld 9 Zb 3,
    mv 10 1,
    fa 11 Zz 1 5,
    ld 12 (.int .i64) 11,
    o_ 13 (.call (.f 52) [(.t 9),(.t 10),(.t 12)] [.d Zb,.d (.int .i64),.d (.int .i64)] [] false),
    xt 14 13 0,
    xt 15 13 1,
    xt 16 13 2,
    sr Zb 6 14,
    mv 7 15,
    mv 8 16]) (BTo)) (BTn)
def Q0.fn:Fn:=⟨3,[.cell 6 (.d Zb),.tmp 7,.tmp 8],.seq (.reg false [bx 3 0 0,
    bx 5 1 2,
    nb 6 2 Zb,
    ci 7 0,
    ci 8 0]) (BTm)⟩
def BM4:Cd:=td [8,9]
def BM7:Cd:=td [11,12]
def BM6:Cd:=.ret
def BM5:Cd:=.seq (.seq (.reg false [ld 11 Zb 3,
    o_ 12 (.build Z9 [(0,(.c (.int .i64) (2:Int)))] []),
    sr Zb 6 11,
    sr Z9 7 12]) (BM7)) (BM6)
def BM8:Cd:=.skip
def BM3:Cd:=.cond (.t 10) (.seq (td [10]) (BM5)) (.seq (td [10]) (BM8))
def BNa:Cd:=td [13,14,15,16,17,18,19,20,21,22]
def BM9:Cd:=.ret
def BM2:Cd:=.seq (.seq (.reg true [o_ 13 (.call (.f 28) [] [.fmap [1,2,3,4,5,6,7,8,9,10] [.clo 82 [.refv (.clo 51 [])],.clo 82 [.refv (.clo 53 [])],.clo 87 [.refv (.clo 56 [])],.clo 87 [.refv (.clo 58 [])],.clo 87 [.refv (.clo 60 [])],.clo 87 [.refv (.clo 62 [])],.clo 87 [.refv (.clo 64 [])],.clo 87 [.refv (.clo 66 [])],.clo 119 [.refv (.clo 68 [])],.clo 119 [.refv (.clo 69 [])]]] [] false),
    od 14 (.fieldAddr (.d Zz) 0 (.t 5)) [1] [],
    od 15 (.load (.d (.int .i64)) (.t 14)) [1] [],
    o_ 16 (.lookv (.t 13) (.t 15) false),
    od 17 (.load (.d Zb) (.t 3)) [0] [],
    mv 18 1,
    od 19 (.load (.d Zz) (.t 5)) [1] [],
    o_ 20 (.call (.t 16) [(.t 17),(.t 18),(.t 19)] [.d Zb,.d Z9] [] false),
    xt 21 20 0,
    xt 22 20 1,
    ⟨none,.store (.d Zb) (.t 6) (.t 21),none,[],[2]⟩,
    ⟨none,.store (.d Z9) (.t 7) (.t 22),none,[],[3]⟩]) (BNa)) (BM9)
def BM1:Cd:=.seq (.seq (.seq (.reg false [ld 8 Zz 5,
    o_ 9 (.call (.f 27) [(.t 8)] [.d .bool] [] false),
    nt 10 9]) (BM4)) (BM3)) (BM2)
def Qz.fn:Fn:=⟨3,[.cell 6 (.d Zb),.cell 7 (.d Z9)],.seq (.reg false [bx 3 0 0,
    bx 5 1 2,
    nb 6 2 Zb,
    nb 7 3 Z9]) (BM1)⟩
def BNq:Cd:=td [8,9,10]
def BNr:Cd:=.skip
def AZe:Cd:=.exit 0
def BNp:Cd:=.cond (.t 11) (.seq (td [11]) (BNr)) (.seq (td [11]) (AZe))
def AY9:Cd:=td [14,15,16,17,18,19,20,21,22,23,24,25,26,27,28]
def AZb:Cd:=.ret
def AZa:Cd:=.seq (.reg false [o_ 6 (.move (.c .bool true))]) (AZb)
def AZc:Cd:=.skip
def AY8:Cd:=.cond (.t 29) (.seq (td [29]) (AZa)) (.seq (td [29]) (AZc))
def AZd:Cd:=td [12,13]
def BNs:Cd:=.seq (.reg false [mv 12 7,
    bc 13 .add 12 1,
    mv 7 13]) (AZd)
def BNo:Cd:=.seq (.block 1 (.seq (.seq (.reg false [mv 14 0,
    mv 15 7,
    ix 16 (.sl Za) 14 15,
    fa 17 Za 0 16,
    ld 18 (.int .i64) 17,
    mv 19 1,
    bi 20 .eql 18 19,
    mv 21 20,
    og 22 (.move (.t 0)) 21 true,
    og 23 (.move (.t 7)) 21 true,
    og 24 (.index (.sl Za) (.t 22) (.t 23)) 21 true,
    og 25 (.fieldAddr (.d Za) 1 (.t 24)) 21 true,
    og 26 (.load (.d (.int .i64)) (.t 25)) 21 true,
    og 27 (.move (.t 2)) 21 true,
    og 28 (.bin .eql (.t 26) (.t 27)) 21 true,
    o_ 29 (.pick (.t 21) (.t 28) (.c .bool false))]) (AY9)) (AY8))) (BNs)
def BNn:Cd:=.tidy [] [] [] (some 0)
def ATr:Cd:=.seq (.seq (.seq (.seq (.reg false [mv 8 7,
    mv 9 0,
    le 10 9,
    bi 11 .lss 8 10]) (BNq)) (BNp)) (BNo)) (BNn)
def BNm:Cd:=.block 0 (.loop (ATr))
def AZf:Cd:=.ret
def ATq:Cd:=.seq (.reg false [o_ 6 (.move (.c .bool false))]) (AZf)
def BNl:Cd:=.seq (.seq (.reg false [ci 7 0]) (BNm)) (ATq)
def Z8.fn:Fn:=⟨3,[.tmp 6],.seq (.reg false [o_ 6 (.move (.c .bool false))]) (BNl)⟩
def BQg:Cd:=td [6,7,8,9]
def BQi:Cd:=.ret
def BQh:Cd:=.seq (.reg false [o_ 4 (.move (.c .bool false))]) (BQi)
def BQj:Cd:=.skip
def BQf:Cd:=.cond (.t 10) (.seq (td [10]) (BQh)) (.seq (td [10]) (BQj))
def BCt:Cd:=td [11,12,13]
def BCu:Cd:=.skip
def BC2:Cd:=.exit 0
def BCs:Cd:=.cond (.t 14) (.seq (td [14]) (BCu)) (.seq (td [14]) (BC2))
def BCx:Cd:=td [17,18,19,20,21,22,23,24]
def BCz:Cd:=.ret
def BCy:Cd:=.seq (.reg false [o_ 4 (.move (.c .bool false))]) (BCz)
def BC0:Cd:=.skip
def BCw:Cd:=.cond (.t 25) (.seq (td [25]) (BCy)) (.seq (td [25]) (BC0))
def BC1:Cd:=td [15,16]
def BCv:Cd:=.seq (.reg false [mv 15 5,
    bc 16 .add 15 1,
    mv 5 16]) (BC1)
def BCr:Cd:=.seq (.block 1 (.seq (.seq (.reg true [mv 17 0,
    mv 18 5,
    ix 19 (.sl (.int .i64)) 17 18,
    ld 20 (.int .i64) 19,
    mv 21 1,
    mv 22 5,
    ix 23 (.sl (.int .i64)) 21 22,
    ld 24 (.int .i64) 23,
    bi 25 .neq 20 24]) (BCx)) (BCw))) (BCv)
def BCq:Cd:=.tidy [] [] [] (some 0)
def ATx:Cd:=.seq (.seq (.seq (.seq (.reg false [mv 11 5,
    mv 12 0,
    le 13 12,
    bi 14 .lss 11 13]) (BCt)) (BCs)) (BCr)) (BCq)
def BQk:Cd:=.block 0 (.loop (ATx))
def BC3:Cd:=.ret
def ATw:Cd:=.seq (.reg false [o_ 4 (.move (.c .bool true))]) (BC3)
def BQe:Cd:=.seq (.seq (.reg false [ci 5 0]) (BQk)) (ATw)
def BQd:Cd:=.seq (.seq (.seq (.reg false [mv 6 0,
    le 7 6,
    mv 8 1,
    le 9 8,
    bi 10 .neq 7 9]) (BQg)) (BQf)) (BQe)
def Zw.fn:Fn:=⟨2,[.tmp 4],.seq (.reg false [o_ 4 (.move (.c .bool false))]) (BQd)⟩
def BQo:Cd:=td [6,7,8,9]
def BQq:Cd:=.ret
def BQp:Cd:=.seq (.reg false [o_ 4 (.move (.c .bool false))]) (BQq)
def BQr:Cd:=.skip
def BQn:Cd:=.cond (.t 10) (.seq (td [10]) (BQp)) (.seq (td [10]) (BQr))
def BC7:Cd:=td [11,12,13]
def BC8:Cd:=.skip
def BDg:Cd:=.exit 0
def BC6:Cd:=.cond (.t 14) (.seq (td [14]) (BC8)) (.seq (td [14]) (BDg))
def BDb:Cd:=td [17,18,19,20,21,22,23,24]
def BDd:Cd:=.ret
def BDc:Cd:=.seq (.reg false [o_ 4 (.move (.c .bool false))]) (BDd)
def BDe:Cd:=.skip
def BDa:Cd:=.cond (.t 25) (.seq (td [25]) (BDc)) (.seq (td [25]) (BDe))
def BDf:Cd:=td [15,16]
def BC9:Cd:=.seq (.reg false [mv 15 5,
    bc 16 .add 15 1,
    mv 5 16]) (BDf)
def BC5:Cd:=.seq (.block 1 (.seq (.seq (.reg true [mv 17 0,
    mv 18 5,
    ix 19 (.sl Ym) 17 18,
    ld 20 Ym 19,
    mv 21 1,
    mv 22 5,
    ix 23 (.sl Ym) 21 22,
    ld 24 Ym 23,
    o_ 25 (.eqs Ym true (.t 20) (.t 24))]) (BDb)) (BDa))) (BC9)
def BC4:Cd:=.tidy [] [] [] (some 0)
def ATz:Cd:=.seq (.seq (.seq (.seq (.reg false [mv 11 5,
    mv 12 0,
    le 13 12,
    bi 14 .lss 11 13]) (BC7)) (BC6)) (BC5)) (BC4)
def BQs:Cd:=.block 0 (.loop (ATz))
def BDh:Cd:=.ret
def ATy:Cd:=.seq (.reg false [o_ 4 (.move (.c .bool true))]) (BDh)
def BQm:Cd:=.seq (.seq (.reg false [ci 5 0]) (BQs)) (ATy)
def BQl:Cd:=.seq (.seq (.seq (.reg false [mv 6 0,
    le 7 6,
    mv 8 1,
    le 9 8,
    bi 10 .neq 7 9]) (BQo)) (BQn)) (BQm)
def Z5.fn:Fn:=⟨2,[.tmp 4],.seq (.reg false [o_ 4 (.move (.c .bool false))]) (BQl)⟩
def BNv:Cd:=td [5,6,7,8,9,10,11,12,13,14,15,16,17,18,19,20,21,22,23,24,25,26,27,28,29,30,31,32,33,34,35,36,37,38,39,40,41,42,43,44]
def BNu:Cd:=.ret
def BNt:Cd:=.seq (.seq (.reg false [fa 5 Z9 0 2,
    ld 6 (.int .i64) 5,
    fa 7 Z9 0 3,
    ld 8 (.int .i64) 7,
    bi 9 .eql 6 8,
    mv 10 9,
    og 11 (.fieldAddr (.d Z9) 1 (.t 2)) 10 true,
    og 12 (.load (.d (.int .i64)) (.t 11)) 10 true,
    og 13 (.fieldAddr (.d Z9) 1 (.t 3)) 10 true,
    og 14 (.load (.d (.int .i64)) (.t 13)) 10 true,
    og 15 (.bin .eql (.t 12) (.t 14)) 10 true,
    o_ 16 (.pick (.t 10) (.t 15) (.c .bool false)),
    mv 17 16,
    og 18 (.fieldAddr (.d Z9) 2 (.t 2)) 17 true,
    og 19 (.load (.d (.int .i64)) (.t 18)) 17 true,
    og 20 (.fieldAddr (.d Z9) 2 (.t 3)) 17 true,
    og 21 (.load (.d (.int .i64)) (.t 20)) 17 true,
    og 22 (.bin .eql (.t 19) (.t 21)) 17 true,
    o_ 23 (.pick (.t 17) (.t 22) (.c .bool false)),
    mv 24 23,
    og 25 (.fieldAddr (.d Z9) 5 (.t 2)) 24 true,
    og 26 (.load (.d (.int .i64)) (.t 25)) 24 true,
    og 27 (.fieldAddr (.d Z9) 5 (.t 3)) 24 true,
    og 28 (.load (.d (.int .i64)) (.t 27)) 24 true,
    og 29 (.bin .eql (.t 26) (.t 28)) 24 true,
    o_ 30 (.pick (.t 24) (.t 29) (.c .bool false)),
    mv 31 30,
    og 32 (.fieldAddr (.d Z9) 3 (.t 2)) 31 true,
    og 33 (.load (.d (.sl (.int .i64))) (.t 32)) 31 true,
    og 34 (.fieldAddr (.d Z9) 3 (.t 3)) 31 true,
    og 35 (.load (.d (.sl (.int .i64))) (.t 34)) 31 true,
    og 36 (.call (.f 33) [(.t 33),(.t 35)] [.d .bool] [] false) 31 true,
    o_ 37 (.pick (.t 31) (.t 36) (.c .bool false)),
    mv 38 37,
    og 39 (.fieldAddr (.d Z9) 4 (.t 2)) 38 true,
    og 40 (.load (.d (.sl Ym)) (.t 39)) 38 true,
    og 41 (.fieldAddr (.d Z9) 4 (.t 3)) 38 true,
    og 42 (.load (.d (.sl Ym)) (.t 41)) 38 true,
    og 43 (.call (.f 34) [(.t 40),(.t 42)] [.d .bool] [] false) 38 true,
    o_ 44 (.pick (.t 38) (.t 43) (.c .bool false)),
    mv 4 44]) (BNv)) (BNu)
def Ya.fn:Fn:=⟨2,[.tmp 4],.seq (.reg false [bx 2 0 0,
    bx 3 1 1,
    o_ 4 (.move (.c .bool false))]) (BNt)⟩
def BQw:Cd:=td [6,7,8,9]
def BQy:Cd:=.ret
def BQx:Cd:=.seq (.reg false [o_ 4 (.move (.c .bool false))]) (BQy)
def BQz:Cd:=.skip
def BQv:Cd:=.cond (.t 10) (.seq (td [10]) (BQx)) (.seq (td [10]) (BQz))
def BDl:Cd:=td [11,12,13]
def BDm:Cd:=.skip
def BDu:Cd:=.exit 0
def BDk:Cd:=.cond (.t 14) (.seq (td [14]) (BDm)) (.seq (td [14]) (BDu))
def BDp:Cd:=td [17,18,19,20,21,22,23,24]
def BDr:Cd:=.ret
def BDq:Cd:=.seq (.reg false [o_ 4 (.move (.c .bool false))]) (BDr)
def BDs:Cd:=.skip
def BDo:Cd:=.cond (.t 25) (.seq (td [25]) (BDq)) (.seq (td [25]) (BDs))
def BDt:Cd:=td [15,16]
def BDn:Cd:=.seq (.reg false [mv 15 5,
    bc 16 .add 15 1,
    mv 5 16]) (BDt)
def BDj:Cd:=.seq (.block 1 (.seq (.seq (.reg true [mv 17 0,
    mv 18 5,
    ix 19 (.sl Za) 17 18,
    ld 20 Za 19,
    mv 21 1,
    mv 22 5,
    ix 23 (.sl Za) 21 22,
    ld 24 Za 23,
    o_ 25 (.eqs Za true (.t 20) (.t 24))]) (BDp)) (BDo))) (BDn)
def BDi:Cd:=.tidy [] [] [] (some 0)
def AT1:Cd:=.seq (.seq (.seq (.seq (.reg false [mv 11 5,
    mv 12 0,
    le 13 12,
    bi 14 .lss 11 13]) (BDl)) (BDk)) (BDj)) (BDi)
def BQ0:Cd:=.block 0 (.loop (AT1))
def BDv:Cd:=.ret
def AT0:Cd:=.seq (.reg false [o_ 4 (.move (.c .bool true))]) (BDv)
def BQu:Cd:=.seq (.seq (.reg false [ci 5 0]) (BQ0)) (AT0)
def BQt:Cd:=.seq (.seq (.seq (.reg false [mv 6 0,
    le 7 6,
    mv 8 1,
    le 9 8,
    bi 10 .neq 7 9]) (BQw)) (BQv)) (BQu)
def Z1.fn:Fn:=⟨2,[.tmp 4],.seq (.reg false [o_ 4 (.move (.c .bool false))]) (BQt)⟩
def BNy:Cd:=td [9,10]
def BN0:Cd:=td [11,12]
def BN3:Cd:=td [13,14,15,16,17,18,19,20,21,22,23,24,25,26,27,28,29,30,31,32,33,34,35,36,37,38,39,40,41,42,43,44,45,46,47,48]
def BN5:Cd:=.ret
def BN4:Cd:=.seq (.reg false [o_ 4 (.move (.c .bool false))]) (BN5)
def AZg:Cd:=.skip
def BN2:Cd:=.cond (.t 49) (.seq (td [49]) (BN4)) (.seq (td [49]) (AZg))
def AZl:Cd:=td [50,51,52,53]
def AZm:Cd:=.skip
def AZu:Cd:=.exit 0
def AZk:Cd:=.cond (.t 54) (.seq (td [54]) (AZm)) (.seq (td [54]) (AZu))
def AZp:Cd:=td [57,58,59,60,61,62,63,64,65,66]
def AZr:Cd:=.ret
def AZq:Cd:=.seq (.reg false [o_ 4 (.move (.c .bool false))]) (AZr)
def AZs:Cd:=.skip
def AZo:Cd:=.cond (.t 67) (.seq (td [67]) (AZq)) (.seq (td [67]) (AZs))
def AZt:Cd:=td [55,56]
def AZn:Cd:=.seq (.reg false [mv 55 7,
    bc 56 .add 55 1,
    mv 7 56]) (AZt)
def AZj:Cd:=.seq (.block 1 (.seq (.seq (.reg true [od 57 (.fieldAddr (.d Z3) 0 (.t 5)) [2] [],
    od 58 (.load (.d (.sl (.arr 4 (.int .i64)))) (.t 57)) [2] [],
    mv 59 7,
    o_ 60 (.index (.sl (.arr 4 (.int .i64))) (.t 58) (.t 59)),
    o_ 61 (.load (.d (.arr 4 (.int .i64))) (.t 60)),
    od 62 (.fieldAddr (.d Z3) 0 (.t 6)) [3] [],
    od 63 (.load (.d (.sl (.arr 4 (.int .i64)))) (.t 62)) [3] [],
    mv 64 7,
    o_ 65 (.index (.sl (.arr 4 (.int .i64))) (.t 63) (.t 64)),
    o_ 66 (.load (.d (.arr 4 (.int .i64))) (.t 65)),
    o_ 67 (.eqs (.arr 4 (.int .i64)) true (.t 61) (.t 66))]) (AZp)) (AZo))) (AZn)
def AZi:Cd:=.tidy [] [] [] (some 4)
def AMj:Cd:=.seq (.seq (.seq (.seq (.reg false [mv 50 7,
    fa 51 Z3 0 5,
    o_ 52 (.load (.d (.sl (.arr 4 (.int .i64)))) (.t 51)),
    le 53 52,
    bi 54 .lss 50 53]) (AZl)) (AZk)) (AZj)) (AZi)
def AZh:Cd:=.block 0 (.loop (AMj))
def AZz:Cd:=td [68,69,70,71]
def AZ0:Cd:=.skip
def AZ8:Cd:=.exit 2
def AZy:Cd:=.cond (.t 72) (.seq (td [72]) (AZ0)) (.seq (td [72]) (AZ8))
def AZ3:Cd:=td [75,76,77,78,79,80,81,82,83,84]
def AZ5:Cd:=.ret
def AZ4:Cd:=.seq (.reg false [o_ 4 (.move (.c .bool false))]) (AZ5)
def AZ6:Cd:=.skip
def AZ2:Cd:=.cond (.t 85) (.seq (td [85]) (AZ4)) (.seq (td [85]) (AZ6))
def AZ7:Cd:=td [73,74]
def AZ1:Cd:=.seq (.reg false [mv 73 8,
    bc 74 .add 73 1,
    mv 8 74]) (AZ7)
def AZx:Cd:=.seq (.block 3 (.seq (.seq (.reg true [od 75 (.fieldAddr (.d Z3) 4 (.t 5)) [2] [],
    od 76 (.load (.d (.sl .bool)) (.t 75)) [2] [],
    mv 77 8,
    ix 78 (.sl .bool) 76 77,
    ld 79 .bool 78,
    od 80 (.fieldAddr (.d Z3) 4 (.t 6)) [3] [],
    od 81 (.load (.d (.sl .bool)) (.t 80)) [3] [],
    mv 82 8,
    ix 83 (.sl .bool) 81 82,
    ld 84 .bool 83,
    o_ 85 (.eqs .bool true (.t 79) (.t 84))]) (AZ3)) (AZ2))) (AZ1)
def AZw:Cd:=.tidy [] [] [] (some 4)
def AMl:Cd:=.seq (.seq (.seq (.seq (.reg false [mv 68 8,
    fa 69 Z3 4 5,
    ld 70 (.sl .bool) 69,
    le 71 70,
    bi 72 .lss 68 71]) (AZz)) (AZy)) (AZx)) (AZw)
def AZv:Cd:=.block 2 (.loop (AMl))
def BAa:Cd:=td [86,87,88,89,90,91,92,93,94,95,96,97,98,99,100,101,102,103,104,105,106,107,108,109,110,111,112,113,114,115,116,117,118,119,120,121,122,123,124,125]
def AZ9:Cd:=.ret
def AMk:Cd:=.seq (.seq (.reg false [fa 86 Z3 1 5,
    o_ 87 (.load (.d (.sl (.int .i64))) (.t 86)),
    fa 88 Z3 1 6,
    o_ 89 (.load (.d (.sl (.int .i64))) (.t 88)),
    o_ 90 (.call (.f 33) [(.t 87),(.t 89)] [.d .bool] [] false),
    mv 91 90,
    og 92 (.fieldAddr (.d Z3) 2 (.t 5)) 91 true,
    og 93 (.load (.d (.sl (.int .i64))) (.t 92)) 91 true,
    og 94 (.fieldAddr (.d Z3) 2 (.t 6)) 91 true,
    og 95 (.load (.d (.sl (.int .i64))) (.t 94)) 91 true,
    og 96 (.call (.f 33) [(.t 93),(.t 95)] [.d .bool] [] false) 91 true,
    o_ 97 (.pick (.t 91) (.t 96) (.c .bool false)),
    mv 98 97,
    og 99 (.fieldAddr (.d Z3) 3 (.t 5)) 98 true,
    og 100 (.load (.d (.sl (.int .i64))) (.t 99)) 98 true,
    og 101 (.fieldAddr (.d Z3) 3 (.t 6)) 98 true,
    og 102 (.load (.d (.sl (.int .i64))) (.t 101)) 98 true,
    og 103 (.call (.f 33) [(.t 100),(.t 102)] [.d .bool] [] false) 98 true,
    o_ 104 (.pick (.t 98) (.t 103) (.c .bool false)),
    mv 105 104,
    og 106 (.fieldAddr (.d Zb) 1 (.t 2)) 105 true,
    og 107 (.load (.d (.sl (.int .i64))) (.t 106)) 105 true,
    og 108 (.fieldAddr (.d Zb) 1 (.t 3)) 105 true,
    og 109 (.load (.d (.sl (.int .i64))) (.t 108)) 105 true,
    og 110 (.call (.f 33) [(.t 107),(.t 109)] [.d .bool] [] false) 105 true,
    o_ 111 (.pick (.t 105) (.t 110) (.c .bool false)),
    mv 112 111,
    og 113 (.fieldAddr (.d Zb) 2 (.t 2)) 112 true,
    og 114 (.load (.d (.sl (.int .i64))) (.t 113)) 112 true,
    og 115 (.fieldAddr (.d Zb) 2 (.t 3)) 112 true,
    og 116 (.load (.d (.sl (.int .i64))) (.t 115)) 112 true,
    og 117 (.call (.f 33) [(.t 114),(.t 116)] [.d .bool] [] false) 112 true,
    o_ 118 (.pick (.t 112) (.t 117) (.c .bool false)),
    mv 119 118,
    og 120 (.fieldAddr (.d Zb) 3 (.t 2)) 119 true,
    og 121 (.load (.d (.sl Za)) (.t 120)) 119 true,
    og 122 (.fieldAddr (.d Zb) 3 (.t 3)) 119 true,
    og 123 (.load (.d (.sl Za)) (.t 122)) 119 true,
    og 124 (.call (.f 35) [(.t 121),(.t 123)] [.d .bool] [] false) 119 true,
    o_ 125 (.pick (.t 119) (.t 124) (.c .bool false)),
    mv 4 125]) (BAa)) (AZ9)
def AMi:Cd:=.seq (.seq (.reg false [ci 8 0]) (AZv)) (AMk)
def BN1:Cd:=.seq (.seq (.reg false [ci 7 0]) (AZh)) (AMi)
def BNz:Cd:=.seq (.seq (.seq (.reg false [fa 13 Z3 5 5,
    ld 14 (.int .i64) 13,
    fa 15 Z3 5 6,
    ld 16 (.int .i64) 15,
    bi 17 .neq 14 16,
    mv 18 17,
    og 19 (.fieldAddr (.d Z3) 6 (.t 5)) 18 false,
    og 20 (.load (.d (.int .i64)) (.t 19)) 18 false,
    og 21 (.fieldAddr (.d Z3) 6 (.t 6)) 18 false,
    og 22 (.load (.d (.int .i64)) (.t 21)) 18 false,
    og 23 (.bin .neq (.t 20) (.t 22)) 18 false,
    o_ 24 (.pick (.t 18) (.c .bool true) (.t 23)),
    mv 25 24,
    og 26 (.fieldAddr (.d Z3) 7 (.t 5)) 25 false,
    og 27 (.load (.d (.int .i64)) (.t 26)) 25 false,
    og 28 (.fieldAddr (.d Z3) 7 (.t 6)) 25 false,
    og 29 (.load (.d (.int .i64)) (.t 28)) 25 false,
    og 30 (.bin .neq (.t 27) (.t 29)) 25 false,
    o_ 31 (.pick (.t 25) (.c .bool true) (.t 30)),
    mv 32 31,
    og 33 (.fieldAddr (.d Z3) 0 (.t 5)) 32 false,
    og 34 (.load (.d (.sl (.arr 4 (.int .i64)))) (.t 33)) 32 false,
    og 35 (.len (.t 34)) 32 false,
    og 36 (.fieldAddr (.d Z3) 0 (.t 6)) 32 false,
    og 37 (.load (.d (.sl (.arr 4 (.int .i64)))) (.t 36)) 32 false,
    og 38 (.len (.t 37)) 32 false,
    og 39 (.bin .neq (.t 35) (.t 38)) 32 false,
    o_ 40 (.pick (.t 32) (.c .bool true) (.t 39)),
    mv 41 40,
    og 42 (.fieldAddr (.d Z3) 4 (.t 5)) 41 false,
    og 43 (.load (.d (.sl .bool)) (.t 42)) 41 false,
    og 44 (.len (.t 43)) 41 false,
    og 45 (.fieldAddr (.d Z3) 4 (.t 6)) 41 false,
    og 46 (.load (.d (.sl .bool)) (.t 45)) 41 false,
    og 47 (.len (.t 46)) 41 false,
    og 48 (.bin .neq (.t 44) (.t 47)) 41 false,
    o_ 49 (.pick (.t 41) (.c .bool true) (.t 48))]) (BN3)) (BN2)) (BN1)
def BNx:Cd:=.seq (.seq (.reg false [fa 11 Zb 0 3,
    ld 12 Z3 11,
    nb 6 3 Z3,
    sr Z3 6 12]) (BN0)) (BNz)
def BNw:Cd:=.seq (.seq (.reg false [fa 9 Zb 0 2,
    ld 10 Z3 9,
    nb 5 2 Z3,
    sr Z3 5 10]) (BNy)) (BNx)
def Zn.fn:Fn:=⟨2,[.tmp 4],.seq (.reg false [bx 2 0 0,
    bx 3 1 1,
    o_ 4 (.move (.c .bool false))]) (BNw)⟩
def CAr:Cd:=td [24,25,26,27,28,29,30,31,32,33,34,35,36,37,38,39,40,41,42,43,44,45,46,47,48,49]
def CAu:Cd:=td [51]
def CAt:Cd:=.ret
def CAs:Cd:=.seq (.seq (.reg false [o_ 51 (.call (.f 5) [] [.d .bool] [] false),
    mv 10 51]) (CAu)) (CAt)
def CAv:Cd:=.skip
def CAq:Cd:=.cond (.t 50) (.seq (td [50]) (CAs)) (.seq (td [50]) (CAv))
def CAx:Cd:=td [52,53,54,55,56,57]
def BSq:Cd:=td [58,59,60,61,62,63]
def BSs:Cd:=td [64,65,66,67]
def BSu:Cd:=td [68,69,70,71]
def BSz:Cd:=td [72,73,74]
def BS0:Cd:=.skip
def BS8:Cd:=.exit 0
def BSy:Cd:=.cond (.t 75) (.seq (td [75]) (BS0)) (.seq (td [75]) (BS8))
def BS3:Cd:=td [78,79,80,81,82,83,84,85,86,87,88]
def BS5:Cd:=.ret
def BS4:Cd:=.seq (.reg false [o_ 10 (.move (.c .bool true))]) (BS5)
def BS6:Cd:=.skip
def BS2:Cd:=.cond (.t 89) (.seq (td [89]) (BS4)) (.seq (td [89]) (BS6))
def BS7:Cd:=td [76,77]
def BS1:Cd:=.seq (.reg false [mv 76 15,
    bc 77 .add 76 1,
    mv 15 77]) (BS7)
def BSx:Cd:=.seq (.block 1 (.seq (.seq (.reg true [mv 78 14,
    mv 79 13,
    mv 80 15,
    ix 81 (.sl Za) 79 80,
    fa 82 Za 0 81,
    ld 83 (.int .i64) 82,
    mv 84 13,
    mv 85 15,
    ix 86 (.sl Za) 84 85,
    fa 87 Za 1 86,
    ld 88 (.int .i64) 87,
    o_ 89 (.call (.f 13) [(.t 78),(.t 83),(.t 88)] [.d .bool] [] false)]) (BS3)) (BS2))) (BS1)
def BSw:Cd:=.tidy [] [] [] (some 3)
def AT7:Cd:=.seq (.seq (.seq (.seq (.reg false [mv 72 15,
    mv 73 13,
    le 74 73,
    bi 75 .lss 72 74]) (BSz)) (BSy)) (BSx)) (BSw)
def BSv:Cd:=.block 0 (.loop (AT7))
def BTa:Cd:=td [90,91,92,93,94,95,96]
def BTc:Cd:=td [97,98,99,100,101,102,103]
def BTe:Cd:=td [104,105,106,107,108,109,110]
def BTg:Cd:=td [111,112,113,114,115,116,117]
def BTi:Cd:=td [118,119,120,121,122,123,124,125,126,127,128,129,130,131,132,133,134,135,136,137,138,139,140,141,142,143,144,145,146]
def BTh:Cd:=.ret
def BTf:Cd:=.seq (.seq (.reg false [ld 118 Z9 17,
    ld 119 Z9 23,
    o_ 120 (.call (.f 16) [(.t 118),(.t 119)] [.d .bool] [] false),
    mv 121 120,
    og 122 (.load (.d Z9) (.t 19)) 121 true,
    og 123 (.load (.d Z9) (.t 21)) 121 true,
    og 124 (.call (.f 16) [(.t 122),(.t 123)] [.d .bool] [] false) 121 true,
    o_ 125 (.pick (.t 121) (.t 124) (.c .bool false)),
    mv 126 125,
    og 127 (.load (.d Zb) (.t 18)) 126 true,
    og 128 (.load (.d Zb) (.t 22)) 126 true,
    og 129 (.call (.f 17) [(.t 127),(.t 128)] [.d .bool] [] false) 126 true,
    o_ 130 (.pick (.t 126) (.t 129) (.c .bool false)),
    mv 131 130,
    og 132 (.load (.d Zb) (.t 16)) 131 true,
    og 133 (.move (.t 12)) 131 true,
    og 134 (.load (.d Zz) (.t 9)) 131 true,
    og 135 (.call (.f 9) [(.t 132),(.t 133),(.t 134)] [.d (.sl Za)] [] false) 131 true,
    og 136 (.move (.t 14)) 131 true,
    og 137 (.call (.f 18) [(.t 135),(.t 136)] [.d .bool] [] false) 131 true,
    o_ 138 (.pick (.t 131) (.t 137) (.c .bool false)),
    mv 139 138,
    og 140 (.load (.d Zb) (.t 20)) 139 true,
    og 141 (.move (.t 11)) 139 true,
    og 142 (.load (.d Zz) (.t 7)) 139 true,
    og 143 (.call (.f 9) [(.t 140),(.t 141),(.t 142)] [.d (.sl Za)] [] false) 139 true,
    og 144 (.move (.t 13)) 139 true,
    og 145 (.call (.f 18) [(.t 143),(.t 144)] [.d .bool] [] false) 139 true,
    o_ 146 (.pick (.t 139) (.t 145) (.c .bool false)),
    mv 10 146]) (BTi)) (BTh)
def BTd:Cd:=.seq (.seq (.reg false [ld 112 Zb 20,
    mv 113 11,
    ld 114 Zz 7,
    o_ 115 (.call (.f 10) [(.t 112),(.t 113),(.t 114)] [.d Zb,.d Z9] [] false),
    mv 111 115,
    xt 116 111 0,
    xt 117 111 1,
    nb 22 9 Zb,
    nb 23 10 Z9,
    sr Zb 22 116,
    sr Z9 23 117]) (BTg)) (BTf)
def BTb:Cd:=.seq (.seq (.reg false [ld 105 Zb 5,
    mv 106 12,
    ld 107 Zz 9,
    o_ 108 (.call (.f 10) [(.t 105),(.t 106),(.t 107)] [.d Zb,.d Z9] [] false),
    mv 104 108,
    xt 109 104 0,
    xt 110 104 1,
    nb 20 7 Zb,
    nb 21 8 Z9,
    sr Zb 20 109,
    sr Z9 21 110]) (BTe)) (BTd)
def BS9:Cd:=.seq (.seq (.reg false [ld 98 Zb 16,
    mv 99 12,
    ld 100 Zz 9,
    o_ 101 (.call (.f 10) [(.t 98),(.t 99),(.t 100)] [.d Zb,.d Z9] [] false),
    mv 97 101,
    xt 102 97 0,
    xt 103 97 1,
    nb 18 5 Zb,
    nb 19 6 Z9,
    sr Zb 18 102,
    sr Z9 19 103]) (BTc)) (BTb)
def AT6:Cd:=.seq (.seq (.reg false [ld 91 Zb 5,
    mv 92 11,
    ld 93 Zz 7,
    o_ 94 (.call (.f 10) [(.t 91),(.t 92),(.t 93)] [.d Zb,.d Z9] [] false),
    mv 90 94,
    xt 95 90 0,
    xt 96 90 1,
    nb 16 3 Zb,
    nb 17 4 Z9,
    sr Zb 16 95,
    sr Z9 17 96]) (BTa)) (BS9)
def BSt:Cd:=.seq (.seq (.reg false [ci 15 0]) (BSv)) (AT6)
def BSr:Cd:=.seq (.seq (.reg false [ld 68 Zb 5,
    mv 69 12,
    ld 70 Zz 9,
    o_ 71 (.call (.f 9) [(.t 68),(.t 69),(.t 70)] [.d (.sl Za)] [] false),
    mv 14 71]) (BSu)) (BSt)
def BSp:Cd:=.seq (.seq (.reg false [ld 64 Zb 5,
    mv 65 11,
    ld 66 Zz 7,
    o_ 67 (.call (.f 9) [(.t 64),(.t 65),(.t 66)] [.d (.sl Za)] [] false),
    mv 13 67]) (BSs)) (BSr)
def CAw:Cd:=.seq (.seq (.reg false [mv 58 3,
    o_ 59 (.conv .i64 (.t 58)),
    fa 60 Zb 1 5,
    o_ 61 (.load (.d (.sl (.int .i64))) (.t 60)),
    le 62 61,
    bi 63 .rem 59 62,
    mv 12 63]) (BSq)) (BSp)
def CAp:Cd:=.seq (.seq (.reg false [mv 52 1,
    o_ 53 (.conv .i64 (.t 52)),
    fa 54 Zb 1 5,
    o_ 55 (.load (.d (.sl (.int .i64))) (.t 54)),
    le 56 55,
    bi 57 .rem 53 56,
    mv 11 57]) (CAx)) (CAw)
def CAo:Cd:=.seq (.seq (.seq (.reg false [o_ 24 (.call (.f 5) [] [.d .bool] [] false),
    nt 25 24,
    mv 26 25,
    og 27 (.load (.d Zb) (.t 5)) 26 false,
    og 28 (.call (.f 6) [(.t 27)] [.d .bool] [] false) 26 false,
    og 29 (.not (.t 28)) 26 false,
    o_ 30 (.pick (.t 26) (.c .bool true) (.t 29)),
    mv 31 30,
    og 32 (.load (.d Zz) (.t 7)) 31 false,
    og 33 (.call (.f 7) [(.t 32)] [.d .bool] [] false) 31 false,
    og 34 (.not (.t 33)) 31 false,
    o_ 35 (.pick (.t 31) (.c .bool true) (.t 34)),
    mv 36 35,
    og 37 (.load (.d Zz) (.t 7)) 36 false,
    og 38 (.call (.f 8) [(.t 37)] [.d .bool] [] false) 36 false,
    og 39 (.not (.t 38)) 36 false,
    o_ 40 (.pick (.t 36) (.c .bool true) (.t 39)),
    mv 41 40,
    og 42 (.load (.d Zz) (.t 9)) 41 false,
    og 43 (.call (.f 7) [(.t 42)] [.d .bool] [] false) 41 false,
    og 44 (.not (.t 43)) 41 false,
    o_ 45 (.pick (.t 41) (.c .bool true) (.t 44)),
    mv 46 45,
    og 47 (.load (.d Zz) (.t 9)) 46 false,
    og 48 (.call (.f 8) [(.t 47)] [.d .bool] [] false) 46 false,
    og 49 (.not (.t 48)) 46 false,
    o_ 50 (.pick (.t 46) (.c .bool true) (.t 49))]) (CAr)) (CAq)) (CAp)
def Zs.fn:Fn:=⟨5,[.tmp 10],.seq (.reg false [bx 5 0 0,
    bx 7 1 2,
    bx 9 2 4,
    o_ 10 (.move (.c .bool false))]) (CAo)⟩
def BTl:Cd:=td [3]
def BTk:Cd:=.ret
def BTj:Cd:=.seq (.seq (.reg false [o_ 3 (.func 82 [(.t 1)]),
    mv 2 3]) (BTl)) (BTk)
def Om.fn:Fn:=⟨1,[.tmp 2],.seq (.reg false [bx 1 0 0,
    o_ 2 (.move .nf)]) (BTj)⟩
def BT1:Cd:=td [3]
def BT0:Cd:=.ret
def BTz:Cd:=.seq (.seq (.reg false [o_ 3 (.func 87 [(.t 1)]),
    mv 2 3]) (BT1)) (BT0)
def On.fn:Fn:=⟨1,[.tmp 2],.seq (.reg false [bx 1 0 0,
    o_ 2 (.move .nf)]) (BTz)⟩
def BVz:Cd:=td [3]
def BVy:Cd:=.ret
def BVx:Cd:=.seq (.seq (.reg false [o_ 3 (.func 119 [(.t 1)]),
    mv 2 3]) (BVz)) (BVy)
def Ry.fn:Fn:=⟨1,[.tmp 2],.seq (.reg false [bx 1 0 0,
    o_ 2 (.move .nf)]) (BVx)⟩
def prog:FuncId→Option Fn
  | 4=>some Zs.fn
  | 5=>some X0.fn
  | 6=>some Yk.fn
  | 7=>some Yi.fn
  | 8=>some Ye.fn
  | 9=>some Hp.fn
  | 10=>some Qz.fn
  | 11=>some Gg.fn
  | 13=>some Z8.fn
  | 16=>some Ya.fn
  | 17=>some Zn.fn
  | 18=>some Z4.fn
  | 19=>some Vg.fn
  | 20=>some Qr.fn
  | 21=>some Yj.fn
  | 22=>some Zg.fn
  | 23=>some Zf.fn
  | 24=>some Zh.fn
  | 25=>some J0.fn
  | 27=>some Hn.fn
  | 29=>some K5.fn
  | 30=>some X5.fn
  | 31=>some Kf.fn
  | 33=>some Zw.fn
  | 34=>some Z5.fn
  | 35=>some Z1.fn
  | 36=>some Zc.fn
  | 37=>some Xe.fn
  | 38=>some Yr.fn
  | 39=>some Z6.fn
  | 40=>some Z7.fn
  | 41=>some Ys.fn
  | 44=>some Hw.fn
  | 45=>some Hx.fn
  | 46=>some Qw.fn
  | 47=>some Uc.fn
  | 48=>some K0.fn
  | 49=>some Gs.fn
  | 50=>some Om.fn
  | 51=>some Q0.fn
  | 52=>some Kw.fn
  | 53=>some Q2.fn
  | 54=>some Kx.fn
  | 55=>some On.fn
  | 56=>some Q3.fn
  | 57=>some Hy.fn
  | 58=>some Q4.fn
  | 59=>some Ku.fn
  | 60=>some Q5.fn
  | 61=>some Kp.fn
  | 62=>some Q6.fn
  | 63=>some V1.fn
  | 64=>some Q7.fn
  | 65=>some V2.fn
  | 66=>some Xa.fn
  | 67=>some Ry.fn
  | 68=>some V3.fn
  | 69=>some Kv.fn
  | 70=>some Yd.fn
  | 72=>some G0.fn
  | 77=>some Hd.fn
  | 78=>some U8.fn
  | 79=>some Zq.fn
  | 80=>some Xh.fn
  | 81=>some Kq.fn
  | 82=>some Q8.fn
  | 83=>some Yt.fn
  | 84=>some Kh.fn
  | 85=>some Vq.fn
  | 86=>some J6.fn
  | 87=>some Q9.fn
  | 88=>some Jn.fn
  | 89=>some Kc.fn
  | 90=>some Ql.fn
  | 91=>some Qg.fn
  | 92=>some Jh.fn
  | 93=>some J1.fn
  | 94=>some Vf.fn
  | 95=>some J2.fn
  | 96=>some J3.fn
  | 98=>some J4.fn
  | 99=>some Jy.fn
  | 100=>some Xt.fn
  | 101=>some J5.fn
  | 102=>some Jp.fn
  | 103=>some Hq.fn
  | 104=>some Y1.fn
  | 105=>some Ja.fn
  | 106=>some Jb.fn
  | 107=>some Jc.fn
  | 108=>some Jd.fn
  | 109=>some Hf.fn
  | 110=>some Qp.fn
  | 111=>some Y9.fn
  | 113=>some Qe.fn
  | 114=>some Y2.fn
  | 115=>some Qo.fn
  | 116=>some Xy.fn
  | 117=>some Kr.fn
  | 118=>some Jz.fn
  | 119=>some Qn.fn
  | 120=>some Xm.fn
  | 121=>some X1.fn
  | 135=>some Zj.fn
  | 136=>some Jg.fn
  | 137=>some Qd.fn
  | 139=>some Gt.fn
  | _=>none
end Go.Proofs.YtmemggdjnfccfaaGreatDoor.Ghost
