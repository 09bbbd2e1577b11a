/- The functions as ghost code. Conditions: none; no statement is proved here. -/
import Derived.Test.YtmemggdjnfccfaaGreatDoorA1
set_option linter.unusedVariables false
set_option linter.unusedSimpArgs false
set_option linter.unusedSectionVars false
set_option linter.unnecessarySimpa false
namespace Go.Proofs.YtmemggdjnfccfaaGreatDoor.Ghost
open Go
def o_ (d:Nat) (x:GOp):Ln:=⟨some d,x,none,[],[]⟩
def on_ (x:GOp):Ln:=⟨none,x,none,[],[]⟩
def og (d:Nat) (x:GOp) (g:Nat) (b:Bool):Ln:=⟨some d,x,some (g,b),[],[]⟩
def od (d:Nat) (x:GOp) (r w:List Nat):Ln:=⟨some d,x,none,r,w⟩
def ogd (d:Nat) (x:GOp) (g:Nat) (b:Bool) (r:List Nat):Ln:=⟨some d,x,some (g,b),r,[]⟩
def mv (d i:Nat):Ln:=⟨some d,.move (.t i),none,[],[]⟩
def ld (d:Nat) (t:Ty) (i:Nat):Ln:=⟨some d,.load (.d t) (.t i),none,[],[]⟩
def fa (d:Nat) (t:Ty) (j i:Nat):Ln:=⟨some d,.fieldAddr (.d t) j (.t i),none,[],[]⟩
def bi (d:Nat) (b:BinOp) (i j:Nat):Ln:=⟨some d,.bin b (.t i) (.t j),none,[],[]⟩
def bc (d:Nat) (b:BinOp) (i:Nat) (n:Int):Ln:=⟨some d,.bin b (.t i) (.c (.int .i64) n),none,[],[]⟩
def ix (d:Nat) (t:IT) (i j:Nat):Ln:=⟨some d,.index t (.t i) (.t j),none,[],[]⟩
def le (d i:Nat):Ln:=⟨some d,.len (.t i),none,[],[]⟩
def xt (d i j:Nat):Ln:=⟨some d,.extract (.t i) j,none,[],[]⟩
def nt (d i:Nat):Ln:=⟨some d,.not (.t i),none,[],[]⟩
def ci (d:Nat) (n:Int):Ln:=⟨some d,.move (.c (.int .i64) n),none,[],[]⟩
def sr (t:Ty) (i j:Nat):Ln:=⟨none,.store (.d t) (.t i) (.t j),none,[],[]⟩
def nb (d k:Nat) (t:Ty):Ln:=⟨some d,.newbox k t [],none,[],[]⟩
def bx (d k i:Nat):Ln:=⟨some d,.box k (.t i),none,[],[]⟩
def td (l:List Nat):Cd:=.tidy l [] [] none
abbrev Xa:Ty:=.st [(.sl (.arr 4 (.int .i64))),(.sl (.int .i64)),(.sl (.int .i64)),(.sl (.int .i64)),(.sl .bool),(.int .i64),(.int .i64),(.int .i64)]
abbrev Za:Ty:=.st [(.int .i64),(.int .i64)]
abbrev Zb:Ty:=.st [Xa,(.sl (.int .i64)),(.sl (.int .i64)),(.sl Za)]
abbrev Z2:Ty:=.st [(.int .i64),(.int .i64),(.int .i64),(.int .i64),(.int .i64),(.sl (.int .i64)),(.int .i64),(.sl (.int .i64)),(.int .i64)]
abbrev V8:Ty:=.st [(.int .i64),Za]
abbrev Xm:Ty:=.st [(.int .i64),(.int .i64),(.int .i64),(.sl (.int .i64)),(.sl V8),(.int .i64)]
abbrev Uw:Ty:=.st [(.int .i64),(.int .i64),(.int .i64),(.int .i64),(.int .i64),(.int .i64),(.int .i64)]
def BMx:Cd:=td [5,6]
def BMz:Cd:=td [7,8,9,10,11,12]
def BM1:Cd:=td [13,14,15,16,17,18]
def AZ8:Cd:=td [19,20,21,22]
def AZ9:Cd:=.skip
def BAd:Cd:=.exit 0
def AZ7:Cd:=.cond (.t 23) (.seq (td [23]) (AZ9)) (.seq (td [23]) (BAd))
def BAb:Cd:=td [26,27,28,29,30,31,32,33,34,35,36]
def BAc:Cd:=td [24,25]
def BAa:Cd:=.seq (.reg false [mv 24 4,
    bc 25 .add 24 1,
    mv 4 25]) (BAc)
def AZ6:Cd:=.seq (.block 1 (.seq (.reg true [od 26 (.fieldAddr (.d Zb) 3 (.t 3)) [2] [],
    od 27 (.load (.d (.sl Za)) (.t 26)) [2] [],
    od 28 (.fieldAddr (.d Xa) 3 (.t 1)) [0] [],
    od 29 (.load (.d (.sl (.int .i64))) (.t 28)) [0] [],
    mv 30 4,
    ix 31 (.sl (.int .i64)) 29 30,
    ld 32 (.int .i64) 31,
    o_ 33 (.build Za [(1,(.t 32))] []),
    od 34 (.slice 5 Za [(.t 33)]) [] [5],
    od 35 (.append 6 Za (.t 27) (.t 34)) [5] [6,9],
    od 36 (.fieldAddr (.d Zb) 3 (.t 3)) [2] [],
    ⟨none,.store (.d (.sl Za)) (.t 36) (.t 35),none,[],[2]⟩]) (BAb))) (BAa)
def AZ5:Cd:=.tidy [] [(6,9)] [5] (some 10)
def BM4:Cd:=.seq (.seq (.seq (.seq (.reg false [mv 19 4,
    fa 20 Xa 3 1,
    o_ 21 (.load (.d (.sl (.int .i64))) (.t 20)),
    le 22 21,
    bi 23 .lss 19 22]) (AZ8)) (AZ7)) (AZ6)) (AZ5)
def BM3:Cd:=.block 0 (.loop (BM4))
def BAf:Cd:=td [37]
def BAe:Cd:=.ret
def BM2:Cd:=.seq (.seq (.reg false [ld 37 Zb 3,
    sr Zb 2 37]) (BAf)) (BAe)
def BM0:Cd:=.seq (.seq (.reg false [ci 4 0]) (BM3)) (BM2)
def BMy:Cd:=.seq (.seq (.reg false [fa 13 Zb 2 3,
    o_ 14 (.load (.d (.sl (.int .i64))) (.t 13)),
    fa 15 Xa 2 1,
    o_ 16 (.load (.d (.sl (.int .i64))) (.t 15)),
    o_ 17 (.append 4 (.int .i64) (.t 14) (.t 16)),
    fa 18 Zb 2 3,
    on_ (.store (.d (.sl (.int .i64))) (.t 18) (.t 17))]) (BM1)) (BM0)
def BMw:Cd:=.seq (.seq (.reg false [fa 7 Zb 1 3,
    o_ 8 (.load (.d (.sl (.int .i64))) (.t 7)),
    fa 9 Xa 1 1,
    o_ 10 (.load (.d (.sl (.int .i64))) (.t 9)),
    o_ 11 (.append 3 (.int .i64) (.t 8) (.t 10)),
    fa 12 Zb 1 3,
    on_ (.store (.d (.sl (.int .i64))) (.t 12) (.t 11))]) (BMz)) (BMy)
def BMv:Cd:=.seq (.seq (.reg false [ld 5 Xa 1,
    o_ 6 (.build Zb [(0,(.t 5))] [([1],7),([2],8),([3],9)]),
    nb 3 2 Zb,
    sr Zb 3 6]) (BMx)) (BMw)
def Vb.fn:Fn:=⟨1,[.cell 2 (.d Zb)],.seq (.reg false [bx 1 0 0,
    nb 2 1 Zb]) (BMv)⟩
def BM7:Cd:=td [3,4,5,6,7]
def BM9:Cd:=td [8,9,10,11,12]
def BNb:Cd:=td [13,14,15,16,17]
def BNd:Cd:=td [18]
def BNc:Cd:=.ret
def BNa:Cd:=.seq (.seq (.reg false [ld 18 Zb 1,
    sr Zb 2 18]) (BNd)) (BNc)
def BM8:Cd:=.seq (.seq (.reg false [o_ 13 (.slice 6 Za []),
    fa 14 Zb 3 1,
    ld 15 (.sl Za) 14,
    o_ 16 (.append 7 Za (.t 13) (.t 15)),
    fa 17 Zb 3 1,
    sr (.sl Za) 17 16]) (BNb)) (BNa)
def BM6:Cd:=.seq (.seq (.reg false [o_ 8 (.slice 4 (.int .i64) []),
    fa 9 Zb 2 1,
    o_ 10 (.load (.d (.sl (.int .i64))) (.t 9)),
    o_ 11 (.append 5 (.int .i64) (.t 8) (.t 10)),
    fa 12 Zb 2 1,
    on_ (.store (.d (.sl (.int .i64))) (.t 12) (.t 11))]) (BM9)) (BM8)
def BM5:Cd:=.seq (.seq (.reg false [o_ 3 (.slice 2 (.int .i64) []),
    fa 4 Zb 1 1,
    o_ 5 (.load (.d (.sl (.int .i64))) (.t 4)),
    o_ 6 (.append 3 (.int .i64) (.t 3) (.t 5)),
    fa 7 Zb 1 1,
    on_ (.store (.d (.sl (.int .i64))) (.t 7) (.t 6))]) (BM7)) (BM6)
def Qk.fn:Fn:=⟨1,[.cell 2 (.d Zb)],.seq (.reg false [bx 1 0 0,
    nb 2 1 Zb]) (BM5)⟩
def BOd:Cd:=td [9,10,11,12,13,14,15,16]
def BOf:Cd:=td [17,18,19,20]
def BOe:Cd:=.ret
def BOc:Cd:=.seq (.seq (.reg false [mv 17 8,
    o_ 18 (.max [(.t 17),(.c (.int .i64) (0:Int))]),
    mv 19 8,
    bc 20 .geq 19 0,
    mv 6 18,
    mv 7 20]) (BOf)) (BOe)
def BOb:Cd:=.seq (.seq (.reg false [fa 9 Zb 0 3,
    fa 10 Xa 0 9,
    o_ 11 (.load (.d (.sl (.arr 4 (.int .i64)))) (.t 10)),
    mv 12 1,
    mv 13 2,
    o_ 14 (.index (.sl (.arr 4 (.int .i64))) (.t 11) (.t 12)),
    o_ 15 (.index (.arr 4 (.int .i64)) (.t 14) (.t 13)),
    ld 16 (.int .i64) 15,
    mv 8 16]) (BOd)) (BOc)
def Jq.fn:Fn:=⟨3,[.tmp 6,.tmp 7],.seq (.reg false [bx 3 0 0,
    ci 6 0,
    o_ 7 (.move (.c .bool false))]) (BOb)⟩
def BZo:Cd:=td [11,12,13,14,15]
def BZq:Cd:=td [16,17,18,19,20]
def BZt:Cd:=td [21]
def BXl:Cd:=td [24]
def BX8:Cd:=td [25]
def BZv:Cd:=.cond (.t 23) (.skip) (.seq (.reg false [bc 25 .eql 22 2,
    mv 23 25]) (BX8))
def BXn:Cd:=td [26,27,28,29,30,31,32,33]
def BXq:Cd:=td [35,36,37,38,39]
def BXp:Cd:=.seq (.reg false [mv 35 8,
    mv 36 9,
    o_ 37 (.build Za [(0,(.c (.int .i64) (0:Int))),(1,(.t 36))] []),
    o_ 38 (.slice 3 Za [(.t 37)]),
    o_ 39 (.append 4 Za (.t 35) (.t 38)),
    mv 8 39]) (BXq)
def BX7:Cd:=.skip
def BXo:Cd:=.cond (.t 34) (.seq (td [34]) (BXp)) (.seq (td [34]) (BX7))
def BXm:Cd:=.seq (.reg false [mv 34 10]) (BXo)
def BZu:Cd:=.cond (.t 23) (.seq (.seq (.reg false [ld 27 Zb 3,
    mv 28 7,
    fa 29 Z2 1 5,
    ld 30 (.int .i64) 29,
    o_ 31 (.call (.f 25) [(.t 27),(.t 28),(.t 30)] [.d (.int .i64),.d .bool] [] false),
    mv 26 31,
    xt 32 26 0,
    xt 33 26 1,
    mv 9 32,
    mv 10 33]) (BXn)) (BXm)) (.skip)
def BZs:Cd:=.block 0 (.seq (.seq (.seq (.reg false [bc 24 .eql 22 1,
    mv 23 24]) (BXl)) (BZv)) (BZu))
def BXt:Cd:=td [40]
def BXw:Cd:=td [43]
def BX5:Cd:=td [44]
def BX6:Cd:=td [45]
def BX4:Cd:=.cond (.t 42) (.skip) (.seq (.reg false [bc 45 .eql 41 8,
    mv 42 45]) (BX6))
def BXv:Cd:=.cond (.t 42) (.skip) (.seq (.seq (.reg false [bc 44 .eql 41 7,
    mv 42 44]) (BX5)) (BX4))
def BXy:Cd:=td [46,47,48,49,50,51,52,53,54,55]
def BX0:Cd:=td [57,58,59,60,61,62]
def BXz:Cd:=.seq (.reg false [mv 57 8,
    fa 58 Z2 4 5,
    ld 59 (.int .i64) 58,
    o_ 60 (.build Za [(0,(.c (.int .i64) (1:Int))),(1,(.t 59))] []),
    o_ 61 (.slice 5 Za [(.t 60)]),
    o_ 62 (.append 6 Za (.t 57) (.t 61)),
    mv 8 62]) (BX0)
def BX3:Cd:=.skip
def BXx:Cd:=.cond (.t 56) (.seq (td [56]) (BXz)) (.seq (td [56]) (BX3))
def BXu:Cd:=.cond (.t 42) (.seq (.seq (.reg false [fa 46 Z2 4 5,
    ld 47 (.int .i64) 46,
    bc 48 .geq 47 0,
    mv 49 48,
    og 50 (.fieldAddr (.d Z2) 4 (.t 5)) 49 true,
    og 51 (.load (.d (.int .i64)) (.t 50)) 49 true,
    og 52 (.fieldAddr (.d Zb) 1 (.t 3)) 49 true,
    og 53 (.load (.d (.sl (.int .i64))) (.t 52)) 49 true,
    og 54 (.len (.t 53)) 49 true,
    og 55 (.bin .lss (.t 51) (.t 54)) 49 true,
    o_ 56 (.pick (.t 49) (.t 55) (.c .bool false))]) (BXy)) (BXx)) (.skip)
def BXs:Cd:=.block 1 (.seq (.seq (.seq (.reg false [bc 43 .eql 41 2,
    mv 42 43]) (BXw)) (BXv)) (BXu))
def BX2:Cd:=td [63,64]
def BX1:Cd:=.ret
def BXr:Cd:=.seq (.seq (.reg false [mv 63 8,
    o_ 64 (.call (.f 26) [(.t 63)] [.d (.sl Za)] [] false),
    mv 6 64]) (BX2)) (BX1)
def BZr:Cd:=.seq (.seq (.seq (.reg false [fa 40 Z2 0 5,
    ld 41 (.int .i64) 40]) (BXt)) (BXs)) (BXr)
def BZp:Cd:=.seq (.seq (.seq (.reg false [fa 21 Z2 0 5,
    ld 22 (.int .i64) 21]) (BZt)) (BZs)) (BZr)
def BZn:Cd:=.seq (.seq (.reg false [mv 16 7,
    o_ 17 (.build Za [(0,(.c (.int .i64) (0:Int))),(1,(.t 16))] []),
    mv 18 1,
    o_ 19 (.build Za [(0,(.c (.int .i64) (1:Int))),(1,(.t 18))] []),
    o_ 20 (.slice 2 Za [(.t 17),(.t 19)]),
    mv 8 20]) (BZq)) (BZp)
def BZm:Cd:=.seq (.seq (.reg false [fa 11 Zb 1 3,
    o_ 12 (.load (.d (.sl (.int .i64))) (.t 11)),
    mv 13 1,
    ix 14 (.sl (.int .i64)) 12 13,
    ld 15 (.int .i64) 14,
    mv 7 15]) (BZo)) (BZn)
def G4.fn:Fn:=⟨3,[.tmp 6],.seq (.reg false [bx 3 0 0,
    bx 5 1 2,
    o_ 6 (.move (.c (.sl Za) []))]) (BZm)⟩
def BMo:Cd:=td [6,7,8,9]
def BMq:Cd:=.ret
def BMp:Cd:=.seq (.reg false [o_ 4 (.move (.c .bool false))]) (BMq)
def BMr:Cd:=.skip
def BMn:Cd:=.cond (.t 10) (.seq (td [10]) (BMp)) (.seq (td [10]) (BMr))
def AZu:Cd:=td [11,12,13]
def AZv:Cd:=.skip
def AZ3:Cd:=.exit 0
def AZt:Cd:=.cond (.t 14) (.seq (td [14]) (AZv)) (.seq (td [14]) (AZ3))
def AZy:Cd:=td [17,18,19,20,21,22,23,24]
def AZ0:Cd:=.ret
def AZz:Cd:=.seq (.reg false [o_ 4 (.move (.c .bool false))]) (AZ0)
def AZ1:Cd:=.skip
def AZx:Cd:=.cond (.t 25) (.seq (td [25]) (AZz)) (.seq (td [25]) (AZ1))
def AZ2:Cd:=td [15,16]
def AZw:Cd:=.seq (.reg false [mv 15 5,
    bc 16 .add 15 1,
    mv 5 16]) (AZ2)
def AZs:Cd:=.seq (.block 1 (.seq (.seq (.reg true [mv 17 0,
    mv 18 5,
    ix 19 (.sl Za) 17 18,
    ld 20 Za 19,
    mv 21 1,
    mv 22 5,
    ix 23 (.sl Za) 21 22,
    ld 24 Za 23,
    o_ 25 (.eqs Za true (.t 20) (.t 24))]) (AZy)) (AZx))) (AZw)
def AZr:Cd:=.tidy [] [] [] (some 0)
def BMu:Cd:=.seq (.seq (.seq (.seq (.reg false [mv 11 5,
    mv 12 0,
    le 13 12,
    bi 14 .lss 11 13]) (AZu)) (AZt)) (AZs)) (AZr)
def BMt:Cd:=.block 0 (.loop (BMu))
def AZ4:Cd:=.ret
def BMs:Cd:=.seq (.reg false [o_ 4 (.move (.c .bool true))]) (AZ4)
def BMm:Cd:=.seq (.seq (.reg false [ci 5 0]) (BMt)) (BMs)
def BMl:Cd:=.seq (.seq (.seq (.reg false [mv 6 0,
    le 7 6,
    mv 8 1,
    le 9 8,
    bi 10 .neq 7 9]) (BMo)) (BMn)) (BMm)
def Jl.fn:Fn:=⟨2,[.tmp 4],.seq (.reg false [o_ 4 (.move (.c .bool false))]) (BMl)⟩
def BT8:Cd:=td [6]
def BUc:Cd:=.skip
def BIp:Cd:=.exit 0
def BIh:Cd:=td [10]
def BIj:Cd:=td [11,12,13,14,15]
def BIm:Cd:=td [17]
def BIl:Cd:=.ret
def BIk:Cd:=.seq (.seq (.reg false [mv 17 5,
    mv 4 17]) (BIm)) (BIl)
def BIn:Cd:=.skip
def BIi:Cd:=.cond (.t 16) (.seq (td [16]) (BIk)) (.seq (td [16]) (BIn))
def BIg:Cd:=.seq (.seq (.reg true [od 11 (.load (.d Za) (.t 3)) [0] [],
    mv 12 0,
    mv 13 5,
    ix 14 (.sl Za) 12 13,
    ld 15 Za 14,
    o_ 16 (.eqs Za false (.t 11) (.t 15))]) (BIj)) (BIi)
def BIo:Cd:=td [18]
def BUd:Cd:=.seq (.reg false [bc 18 .add 8 1,
    mv 8 18]) (BIo)
def BUb:Cd:=.seq (.block 1 (.seq (.seq (.reg false [mv 10 8,
    mv 5 10]) (BIh)) (BIg))) (BUd)
def BUa:Cd:=.seq (.cond (.t 9) (.seq (td [9]) (BUc)) (.seq (td [9]) (BIp))) (BUb)
def BT9:Cd:=.tidy [5] [] [] (some 1)
def ATk:Cd:=.seq (.seq (.reg false [bi 9 .lss 8 7]) (BUa)) (BT9)
def BT7:Cd:=.block 0 (.loop (ATk))
def BIq:Cd:=.ret
def ATj:Cd:=.seq (.reg false [o_ 4 (.move (.c (.int .i64) ((-1):Int)))]) (BIq)
def BT6:Cd:=.seq (.seq (.seq (.reg false [mv 6 0,
    le 7 6,
    ci 8 0]) (BT8)) (BT7)) (ATj)
def Zm.fn:Fn:=⟨2,[.tmp 4],.seq (.reg false [bx 3 0 1,
    ci 4 0]) (BT6)⟩
def BOo:Cd:=td [5,6,7,8]
def BOn:Cd:=.ret
def BOm:Cd:=.seq (.seq (.reg false [mv 5 0,
    ld 6 Za 3,
    o_ 7 (.call (.f 70) [(.t 5),(.t 6)] [.d (.int .i64)] [] false),
    bc 8 .geq 7 0,
    mv 4 8]) (BOo)) (BOn)
def Z7.fn:Fn:=⟨2,[.tmp 4],.seq (.reg false [bx 3 0 1,
    o_ 4 (.move (.c .bool false))]) (BOm)⟩
def BOl:Cd:=td [6,7,8,9,10]
def BOk:Cd:=.ret
def BOj:Cd:=.seq (.seq (.reg false [ld 6 (.sl Za) 2,
    mv 7 0,
    mv 8 1,
    o_ 9 (.build Za [(0,(.t 7)),(1,(.t 8))] []),
    o_ 10 (.call (.f 30) [(.t 6),(.t 9)] [.d .bool] [] false),
    mv 5 10]) (BOl)) (BOk)
def Yq.fn:Fn:=⟨3,[.tmp 5],.seq (.reg false [o_ 5 (.move (.c .bool false))]) (BOj)⟩
def BUg:Cd:=td [5]
def BUf:Cd:=.ret
def BUe:Cd:=.seq (.seq (.reg false [o_ 5 (.func 123 [(.t 2),(.t 3)]),
    mv 4 5]) (BUg)) (BUf)
def Gq.fn:Fn:=⟨2,[.tmp 4],.seq (.reg false [bx 2 0 0,
    bx 3 1 1,
    o_ 4 (.move .nf)]) (BUe)⟩
def BOr:Cd:=td [6,7,8,9]
def BOt:Cd:=td [10,11,12,13,14,15]
def BOs:Cd:=.ret
def BOq:Cd:=.seq (.seq (.reg false [mv 10 5,
    mv 11 5,
    le 12 11,
    bc 13 .sub 12 1,
    ix 14 (.sl Za) 10 13,
    ld 15 Za 14,
    sr Za 4 15]) (BOt)) (BOs)
def BOp:Cd:=.seq (.seq (.reg false [ld 6 Zb 2,
    mv 7 1,
    o_ 8 (.call (.f 72) [(.t 6),(.t 7)] [.clo 123 [.ref Zb,.ref (.int .i64)]] [] false),
    o_ 9 (.call (.f 71) [(.t 8)] [.d (.sl Za)] [] false),
    mv 5 9]) (BOr)) (BOq)
def Vg.fn:Fn:=⟨2,[.cell 4 (.d Za)],.seq (.reg false [bx 2 0 0,
    nb 4 1 Za]) (BOp)⟩
def BLm:Cd:=td [12]
def BLo:Cd:=td [13,14]
def AWd:Cd:=.skip
def AWn:Cd:=.exit 0
def AWg:Cd:=td [18]
def AWi:Cd:=td [19,20,21,22,23,24,25,26,27,28,29,30,31,32,33,34,35,36,37,38,39,40,41,42,43,44,45,46,47]
def AWk:Cd:=.ret
def AWj:Cd:=.seq (.reg false [o_ 6 (.move (.c .bool false))]) (AWk)
def AWl:Cd:=.skip
def AWh:Cd:=.cond (.t 48) (.seq (td [48]) (AWj)) (.seq (td [48]) (AWl))
def AWf:Cd:=.seq (.seq (.reg true [od 19 (.fieldAddr (.d Zb) 1 (.t 4)) [1] [],
    od 20 (.load (.d (.sl (.int .i64))) (.t 19)) [1] [],
    mv 21 8,
    ix 22 (.sl (.int .i64)) 20 21,
    ld 23 (.int .i64) 22,
    od 24 (.fieldAddr (.d Zb) 1 (.t 5)) [2] [],
    od 25 (.load (.d (.sl (.int .i64))) (.t 24)) [2] [],
    mv 26 8,
    ix 27 (.sl (.int .i64)) 25 26,
    ld 28 (.int .i64) 27,
    bi 29 .neq 23 28,
    mv 30 29,
    ogd 31 (.fieldAddr (.d Zb) 2 (.t 4)) 30 false [1],
    ogd 32 (.load (.d (.sl (.int .i64))) (.t 31)) 30 false [1],
    og 33 (.move (.t 8)) 30 false,
    og 34 (.index (.sl (.int .i64)) (.t 32) (.t 33)) 30 false,
    og 35 (.load (.d (.int .i64)) (.t 34)) 30 false,
    ogd 36 (.fieldAddr (.d Zb) 2 (.t 5)) 30 false [2],
    ogd 37 (.load (.d (.sl (.int .i64))) (.t 36)) 30 false [2],
    og 38 (.move (.t 8)) 30 false,
    og 39 (.index (.sl (.int .i64)) (.t 37) (.t 38)) 30 false,
    og 40 (.load (.d (.int .i64)) (.t 39)) 30 false,
    og 41 (.bin .neq (.t 35) (.t 40)) 30 false,
    o_ 42 (.pick (.t 30) (.c .bool true) (.t 41)),
    mv 43 42,
    og 44 (.move (.t 7)) 43 true,
    og 45 (.move (.t 8)) 43 true,
    ogd 46 (.call (.t 44) [(.c (.int .i64) (1:Int)),(.t 45)] [.d .bool] [] false) 43 true [0],
    og 47 (.not (.t 46)) 43 true,
    o_ 48 (.pick (.t 43) (.t 47) (.c .bool false))]) (AWi)) (AWh)
def AWm:Cd:=td [49]
def AWe:Cd:=.seq (.reg false [bc 49 .add 16 1,
    mv 16 49]) (AWm)
def BLr:Cd:=.seq (.block 1 (.seq (.seq (.reg false [mv 18 16,
    mv 8 18]) (AWg)) (AWf))) (AWe)
def BLq:Cd:=.seq (.cond (.t 17) (.seq (td [17]) (AWd)) (.seq (td [17]) (AWn))) (BLr)
def BLp:Cd:=.tidy [8] [] [] (some 3)
def AS6:Cd:=.seq (.seq (.reg false [bi 17 .lss 16 15]) (BLq)) (BLp)
def BLn:Cd:=.block 0 (.loop (AS6))
def AWp:Cd:=td [50,51]
def AWt:Cd:=.skip
def AW5:Cd:=.exit 2
def AWw:Cd:=td [55]
def AWy:Cd:=td [56,57,58,59,60,61]
def AW0:Cd:=td [62,63,64,65,66,67,68,69,70,71,72,73,74,75,76,77,78,79,80,81,82,83,84,85,86,87,88]
def AW2:Cd:=.ret
def AW1:Cd:=.seq (.reg false [o_ 6 (.move (.c .bool false))]) (AW2)
def AW3:Cd:=.skip
def AWz:Cd:=.cond (.t 89) (.seq (td [89]) (AW1)) (.seq (td [89]) (AW3))
def AWx:Cd:=.seq (.seq (.reg true [od 62 (.fieldAddr (.d Zb) 3 (.t 4)) [1] [],
    od 63 (.load (.d (.sl Za)) (.t 62)) [1] [],
    mv 64 9,
    ix 65 (.sl Za) 63 64,
    ld 66 Za 65,
    od 67 (.fieldAddr (.d Zb) 3 (.t 5)) [2] [],
    od 68 (.load (.d (.sl Za)) (.t 67)) [2] [],
    mv 69 9,
    ix 70 (.sl Za) 68 69,
    ld 71 Za 70,
    o_ 72 (.eqs Za true (.t 66) (.t 71)),
    mv 73 72,
    og 74 (.move (.t 7)) 73 true,
    ogd 75 (.fieldAddr (.d Za) 0 (.t 10)) 73 true [3],
    ogd 76 (.load (.d (.int .i64)) (.t 75)) 73 true [3],
    ogd 77 (.fieldAddr (.d Za) 1 (.t 10)) 73 true [3],
    ogd 78 (.load (.d (.int .i64)) (.t 77)) 73 true [3],
    ogd 79 (.call (.t 74) [(.t 76),(.t 78)] [.d .bool] [] false) 73 true [0],
    og 80 (.move (.t 79)) 73 true,
    og 81 (.move (.t 7)) 80 true,
    ogd 82 (.fieldAddr (.d Za) 0 (.t 11)) 80 true [4],
    ogd 83 (.load (.d (.int .i64)) (.t 82)) 80 true [4],
    ogd 84 (.fieldAddr (.d Za) 1 (.t 11)) 80 true [4],
    ogd 85 (.load (.d (.int .i64)) (.t 84)) 80 true [4],
    ogd 86 (.call (.t 81) [(.t 83),(.t 85)] [.d .bool] [] false) 80 true [0],
    og 87 (.pick (.t 80) (.t 86) (.c .bool false)) 73 true,
    og 88 (.not (.t 87)) 73 true,
    o_ 89 (.pick (.t 73) (.t 88) (.c .bool false))]) (AW0)) (AWz)
def AWv:Cd:=.seq (.seq (.reg true [od 56 (.load (.d Zb) (.t 4)) [1] [],
    mv 57 9,
    o_ 58 (.call (.f 31) [(.t 56),(.t 57)] [.d Za] [] false),
    od 59 (.load (.d Zb) (.t 5)) [2] [],
    mv 60 9,
    o_ 61 (.call (.f 31) [(.t 59),(.t 60)] [.d Za] [] false),
    od 10 (.newbox 3 Za []) [] [3],
    od 11 (.newbox 4 Za []) [] [4],
    ⟨none,.store (.d Za) (.t 10) (.t 58),none,[],[3]⟩,
    ⟨none,.store (.d Za) (.t 11) (.t 61),none,[],[4]⟩]) (AWy)) (AWx)
def AW4:Cd:=td [90]
def AWu:Cd:=.seq (.reg false [bc 90 .add 53 1,
    mv 53 90]) (AW4)
def AWs:Cd:=.seq (.block 3 (.seq (.seq (.reg false [mv 55 53,
    mv 9 55]) (AWw)) (AWv))) (AWu)
def AWr:Cd:=.seq (.cond (.t 54) (.seq (td [54]) (AWt)) (.seq (td [54]) (AW5))) (AWs)
def AWq:Cd:=.tidy [9,10,11] [] [] (some 3)
def ALn:Cd:=.seq (.seq (.reg false [bi 54 .lss 53 52]) (AWr)) (AWq)
def AWo:Cd:=.block 2 (.loop (ALn))
def AW6:Cd:=.ret
def ALm:Cd:=.seq (.reg false [o_ 6 (.move (.c .bool true))]) (AW6)
def AS5:Cd:=.seq (.seq (.seq (.reg false [fa 50 Zb 3 4,
    ld 51 (.sl Za) 50,
    le 52 51,
    ci 53 0]) (AWp)) (AWo)) (ALm)
def BLl:Cd:=.seq (.seq (.seq (.reg false [fa 13 Zb 1 4,
    o_ 14 (.load (.d (.sl (.int .i64))) (.t 13)),
    le 15 14,
    ci 16 0]) (BLo)) (BLn)) (AS5)
def BLk:Cd:=.seq (.seq (.reg false [o_ 12 (.func 29 [(.t 3)]),
    mv 7 12]) (BLm)) (BLl)
def Z5.fn:Fn:=⟨3,[.tmp 6],.seq (.reg false [bx 3 0 0,
    bx 4 1 1,
    bx 5 2 2,
    o_ 6 (.move (.c .bool false))]) (BLk)⟩
def BYy:Cd:=td [4,5,6,7,8,9,10,11,12]
def BY0:Cd:=td [13,14]
def BY2:Cd:=td [15,16,17,18]
def BY4:Cd:=td [19,20,21]
def BSh:Cd:=.reg true [od 22 (.load (.d Zb) (.t 1)) [5] [],
    o_ 23 (.build Z2 [(0,(.c (.int .i64) (9:Int)))] []),
    o_ 24 (.call (.f 9) [(.t 22),(.c (.int .i64) (0:Int)),(.t 23)] [.d (.sl Za)] [] false),
    mv 25 3,
    od 26 (.call (.f 18) [(.t 24),(.t 25)] [.d .bool] [] false) [7] [],
    mv 27 26,
    ogd 28 (.load (.d Zb) (.t 1)) 27 true [5],
    og 29 (.build Z2 [(0,(.c (.int .i64) (2:Int))),(4,(.c (.int .i64) (1:Int)))] []) 27 true,
    og 30 (.call (.f 9) [(.t 28),(.c (.int .i64) (0:Int)),(.t 29)] [.d (.sl Za)] [] false) 27 true,
    og 31 (.build Za [] []) 27 true,
    og 32 (.build Za [(1,(.c (.int .i64) (1:Int)))] []) 27 true,
    og 33 (.build Za [(0,(.c (.int .i64) (1:Int)))] []) 27 true,
    og 34 (.build Za [(0,(.c (.int .i64) (1:Int))),(1,(.c (.int .i64) (1:Int)))] []) 27 true,
    ⟨some 35,.slice 8 Za [(.t 31),(.t 32),(.t 33),(.t 34)],some (27,true),[],[8]⟩,
    ogd 36 (.call (.f 18) [(.t 30),(.t 35)] [.d .bool] [] false) 27 true [8],
    o_ 37 (.pick (.t 27) (.t 36) (.c .bool false)),
    mv 38 37,
    ogd 39 (.load (.d Zb) (.t 1)) 38 true [5],
    og 40 (.build Z2 [(0,(.c (.int .i64) (1:Int))),(1,(.c (.int .i64) (1:Int)))] []) 38 true,
    og 41 (.call (.f 9) [(.t 39),(.c (.int .i64) (0:Int)),(.t 40)] [.d (.sl Za)] [] false) 38 true,
    og 42 (.move (.t 3)) 38 true,
    ogd 43 (.call (.f 18) [(.t 41),(.t 42)] [.d .bool] [] false) 38 true [7],
    o_ 44 (.pick (.t 38) (.t 43) (.c .bool false)),
    mv 45 44,
    ogd 46 (.load (.d Zb) (.t 1)) 45 true [5],
    og 47 (.build Z2 [(0,(.c (.int .i64) (7:Int))),(4,(.c (.int .i64) (7:Int)))] []) 45 true,
    og 48 (.call (.f 9) [(.t 46),(.c (.int .i64) (0:Int)),(.t 47)] [.d (.sl Za)] [] false) 45 true,
    og 49 (.move (.t 3)) 45 true,
    ogd 50 (.call (.f 18) [(.t 48),(.t 49)] [.d .bool] [] false) 45 true [7],
    o_ 51 (.pick (.t 45) (.t 50) (.c .bool false)),
    mv 52 51,
    og 53 (.move (.t 3)) 52 true,
    ogd 54 (.load (.d Zb) (.t 1)) 52 true [5],
    ogd 55 (.load (.d Zb) (.t 2)) 52 true [6],
    ogd 56 (.call (.f 11) [(.t 53),(.t 54),(.t 55)] [.d .bool] [] false) 52 true [7,9],
    o_ 57 (.pick (.t 52) (.t 56) (.c .bool false)),
    mv 58 57,
    og 59 (.move (.t 3)) 58 true,
    ogd 60 (.slx Za (.t 59) none (some (.c (.int .i64) (1:Int)))) 58 true [7],
    ogd 61 (.load (.d Zb) (.t 1)) 58 true [5],
    ogd 62 (.load (.d Zb) (.t 2)) 58 true [6],
    ogd 63 (.call (.f 11) [(.t 60),(.t 61),(.t 62)] [.d .bool] [] false) 58 true [9],
    og 64 (.not (.t 63)) 58 true,
    o_ 65 (.pick (.t 58) (.t 64) (.c .bool false)),
    mv 66 65,
    ogd 67 (.load (.d Zb) (.t 1)) 66 true [5],
    ogd 68 (.load (.d Zb) (.t 1)) 66 true [5],
    og 69 (.call (.f 11) [(.c (.sl Za) ([]:List (den Za))),(.t 67),(.t 68)] [.d .bool] [] false) 66 true,
    o_ 70 (.pick (.t 66) (.t 69) (.c .bool false)),
    mv 0 70]
def BSg:Cd:=td [22,23,24,25,26,27,28,29,30,31,32,33,34,35,36,37,38,39,40,41,42,43,44,45,46,47,48,49,50,51,52,53,54,55,56,57,58,59,60,61,62,63,64,65,66,67,68,69,70]
def BY5:Cd:=.ret
def BY3:Cd:=.seq (.seq (.seq (.frz [7]) (BSh)) (BSg)) (BY5)
def BY1:Cd:=.seq (.seq (.reg false [o_ 19 (.build Za [] []),
    o_ 20 (.build Za [(0,(.c (.int .i64) (1:Int)))] []),
    o_ 21 (.slice 7 Za [(.t 19),(.t 20)]),
    mv 3 21]) (BY4)) (BY3)
def BYz:Cd:=.seq (.seq (.reg false [fa 15 Zb 3 2,
    ld 16 (.sl Za) 15,
    o_ 17 (.build Za [(0,(.c (.int .i64) (1:Int)))] []),
    o_ 18 (.index (.sl Za) (.t 16) (.c (.int .i64) (0:Int))),
    sr Za 18 17]) (BY2)) (BY1)
def BYx:Cd:=.seq (.seq (.reg false [ld 13 Zb 1,
    o_ 14 (.call (.f 20) [(.t 13)] [.d Zb] [((0,[3]),9)] false),
    nb 2 6 Zb,
    sr Zb 2 14]) (BY0)) (BYz)
def BYw:Cd:=.seq (.seq (.reg false [o_ 4 (.build (.arr 4 (.int .i64)) [(0,(.c (.int .i64) (1:Int))),(1,(.c (.int .i64) ((-1):Int))),(2,(.c (.int .i64) ((-1):Int))),(3,(.c (.int .i64) ((-1):Int)))] []),
    o_ 5 (.build (.arr 4 (.int .i64)) [(0,(.c (.int .i64) ((-1):Int))),(1,(.c (.int .i64) ((-1):Int))),(2,(.c (.int .i64) (0:Int))),(3,(.c (.int .i64) ((-1):Int)))] []),
    o_ 6 (.slice 0 (.arr 4 (.int .i64)) [(.t 4),(.t 5)]),
    o_ 7 (.slice 1 (.int .i64) [(.c (.int .i64) (0:Int)),(.c (.int .i64) (0:Int))]),
    o_ 8 (.slice 2 (.int .i64) [(.c (.int .i64) (5:Int)),(.c (.int .i64) (2:Int))]),
    o_ 9 (.slice 3 (.int .i64) [(.c (.int .i64) (0:Int))]),
    o_ 10 (.slice 4 .bool [(.c .bool false)]),
    o_ 11 (.build Xa [(0,(.t 6)),(1,(.t 7)),(2,(.t 8)),(3,(.t 9)),(4,(.t 10)),(5,(.c (.int .i64) (4:Int))),(6,(.c (.int .i64) (2:Int))),(7,(.c (.int .i64) (1:Int)))] []),
    o_ 12 (.call (.f 19) [(.t 11)] [.d Zb] [] false),
    nb 1 5 Zb,
    sr Zb 1 12]) (BYy)) (BYx)
def X7.fn:Fn:=⟨0,[.tmp 0],.seq (.reg false [o_ 0 (.move (.c .bool false))]) (BYw)⟩
def BNg:Cd:=td [4,5]
def BNi:Cd:=td [6,7,8,9,10,11,12,13,14,15,16,17,18,19,20,21,22,23,24,25,26,27,28,29,30,31,32,33,34,35,36,37,38,39,40,41,42,43,44,45,46,47,48,49,50,51]
def BNh:Cd:=.ret
def BNf:Cd:=.seq (.seq (.reg false [fa 6 Xa 0 3,
    o_ 7 (.load (.d (.sl (.arr 4 (.int .i64)))) (.t 6)),
    le 8 7,
    bc 9 .leq 8 20,
    mv 10 9,
    og 11 (.fieldAddr (.d Xa) 1 (.t 3)) 10 true,
    og 12 (.load (.d (.sl (.int .i64))) (.t 11)) 10 true,
    og 13 (.len (.t 12)) 10 true,
    og 14 (.bin .leq (.t 13) (.c (.int .i64) (20:Int))) 10 true,
    o_ 15 (.pick (.t 10) (.t 14) (.c .bool false)),
    mv 16 15,
    og 17 (.fieldAddr (.d Xa) 2 (.t 3)) 16 true,
    og 18 (.load (.d (.sl (.int .i64))) (.t 17)) 16 true,
    og 19 (.len (.t 18)) 16 true,
    og 20 (.bin .leq (.t 19) (.c (.int .i64) (20:Int))) 16 true,
    o_ 21 (.pick (.t 16) (.t 20) (.c .bool false)),
    mv 22 21,
    og 23 (.fieldAddr (.d Xa) 3 (.t 3)) 22 true,
    og 24 (.load (.d (.sl (.int .i64))) (.t 23)) 22 true,
    og 25 (.len (.t 24)) 22 true,
    og 26 (.bin .leq (.t 25) (.c (.int .i64) (40:Int))) 22 true,
    o_ 27 (.pick (.t 22) (.t 26) (.c .bool false)),
    mv 28 27,
    og 29 (.fieldAddr (.d Xa) 4 (.t 3)) 28 true,
    og 30 (.load (.d (.sl .bool)) (.t 29)) 28 true,
    og 31 (.len (.t 30)) 28 true,
    og 32 (.bin .leq (.t 31) (.c (.int .i64) (40:Int))) 28 true,
    o_ 33 (.pick (.t 28) (.t 32) (.c .bool false)),
    mv 34 33,
    og 35 (.fieldAddr (.d Zb) 1 (.t 1)) 34 true,
    og 36 (.load (.d (.sl (.int .i64))) (.t 35)) 34 true,
    og 37 (.len (.t 36)) 34 true,
    og 38 (.bin .leq (.t 37) (.c (.int .i64) (40:Int))) 34 true,
    o_ 39 (.pick (.t 34) (.t 38) (.c .bool false)),
    mv 40 39,
    og 41 (.fieldAddr (.d Zb) 2 (.t 1)) 40 true,
    og 42 (.load (.d (.sl (.int .i64))) (.t 41)) 40 true,
    og 43 (.len (.t 42)) 40 true,
    og 44 (.bin .leq (.t 43) (.c (.int .i64) (40:Int))) 40 true,
    o_ 45 (.pick (.t 40) (.t 44) (.c .bool false)),
    mv 46 45,
    og 47 (.fieldAddr (.d Zb) 3 (.t 1)) 46 true,
    og 48 (.load (.d (.sl Za)) (.t 47)) 46 true,
    og 49 (.len (.t 48)) 46 true,
    og 50 (.bin .leq (.t 49) (.c (.int .i64) (40:Int))) 46 true,
    o_ 51 (.pick (.t 46) (.t 50) (.c .bool false)),
    mv 2 51]) (BNi)) (BNh)
def BNe:Cd:=.seq (.seq (.reg false [fa 4 Zb 0 1,
    ld 5 Xa 4,
    nb 3 1 Xa,
    sr Xa 3 5]) (BNg)) (BNf)
def Ye.fn:Fn:=⟨1,[.tmp 2],.seq (.reg false [bx 1 0 0,
    o_ 2 (.move (.c .bool false))]) (BNe)⟩
def BPg:Cd:=td [5,6,7,8,9,10,11]
def BPf:Cd:=.ret
def BPe:Cd:=.seq (.seq (.reg false [mv 5 0,
    bc 6 .geq 5 0,
    mv 7 6,
    og 8 (.move (.t 0)) 7 true,
    og 9 (.move (.t 1)) 7 true,
    og 10 (.bin .lss (.t 8) (.t 9)) 7 true,
    o_ 11 (.pick (.t 7) (.t 10) (.c .bool false)),
    mv 4 11]) (BPg)) (BPf)
def Xc.fn:Fn:=⟨2,[.tmp 4],.seq (.reg false [o_ 4 (.move (.c .bool false))]) (BPe)⟩
def BPj:Cd:=td [3,4,5,6,7,8]
def BPi:Cd:=.ret
def BPh:Cd:=.seq (.seq (.reg false [mv 3 0,
    o_ 4 (.bin .leq (.c (.int .i64) (0:Int)) (.t 3)),
    mv 5 4,
    og 6 (.move (.t 0)) 5 true,
    og 7 (.bin .leq (.t 6) (.c (.int .i64) (1073741824:Int))) 5 true,
    o_ 8 (.pick (.t 5) (.t 7) (.c .bool false)),
    mv 2 8]) (BPj)) (BPi)
def Ym.fn:Fn:=⟨1,[.tmp 2],.seq (.reg false [o_ 2 (.move (.c .bool false))]) (BPh)⟩
def BO6:Cd:=td [10,11,12]
def BO9:Cd:=td [13,14,15,16,17,18,19,20,21,22,23,24,25,26,27,28,29,30,31,32,33,34,35,36,37,38,39,40,41,42,43,44,45,46,47,48,49,50,51,52,53]
def BPb:Cd:=.ret
def BPa:Cd:=.seq (.reg false [o_ 2 (.move (.c .bool false))]) (BPb)
def BPc:Cd:=.skip
def BO8:Cd:=.cond (.t 54) (.seq (td [54]) (BPa)) (.seq (td [54]) (BPc))
def BB9:Cd:=td [55,56,57,58,59,60,61,62,63,64,65,66,67,68,69]
def BCb:Cd:=.ret
def BCa:Cd:=.seq (.reg false [o_ 2 (.move (.c .bool false))]) (BCb)
def BCc:Cd:=.skip
def BB8:Cd:=.cond (.t 70) (.seq (td [70]) (BCa)) (.seq (td [70]) (BCc))
def BCg:Cd:=td [71,72]
def BCh:Cd:=.skip
def BDh:Cd:=.exit 0
def BCf:Cd:=.cond (.t 73) (.seq (td [73]) (BCh)) (.seq (td [73]) (BDh))
def BCm:Cd:=td [76]
def BCn:Cd:=.skip
def BCv:Cd:=.exit 2
def BCl:Cd:=.cond (.t 77) (.seq (td [77]) (BCn)) (.seq (td [77]) (BCv))
def BCq:Cd:=td [80,81,82,83,84,85,86,87,88,89,90,91,92,93,94,95,96,97,98]
def BCs:Cd:=.ret
def BCr:Cd:=.seq (.reg false [o_ 2 (.move (.c .bool false))]) (BCs)
def BCt:Cd:=.skip
def BCp:Cd:=.cond (.t 99) (.seq (td [99]) (BCr)) (.seq (td [99]) (BCt))
def BCu:Cd:=td [78,79]
def BCo:Cd:=.seq (.reg false [mv 78 5,
    bc 79 .add 78 1,
    mv 5 79]) (BCu)
def BCk:Cd:=.seq (.block 3 (.seq (.seq (.reg false [fa 80 Xa 0 1,
    o_ 81 (.load (.d (.sl (.arr 4 (.int .i64)))) (.t 80)),
    mv 82 4,
    mv 83 5,
    o_ 84 (.index (.sl (.arr 4 (.int .i64))) (.t 81) (.t 82)),
    o_ 85 (.index (.arr 4 (.int .i64)) (.t 84) (.t 83)),
    ld 86 (.int .i64) 85,
    o_ 87 (.bin .neq (.t 86) (.c (.int .i64) ((-1):Int))),
    mv 88 87,
    og 89 (.fieldAddr (.d Xa) 0 (.t 1)) 88 true,
    og 90 (.load (.d (.sl (.arr 4 (.int .i64)))) (.t 89)) 88 true,
    og 91 (.move (.t 4)) 88 true,
    og 92 (.move (.t 5)) 88 true,
    og 93 (.index (.sl (.arr 4 (.int .i64))) (.t 90) (.t 91)) 88 true,
    og 94 (.index (.arr 4 (.int .i64)) (.t 93) (.t 92)) 88 true,
    og 95 (.load (.d (.int .i64)) (.t 94)) 88 true,
    og 96 (.move (.t 3)) 88 true,
    og 97 (.call (.f 37) [(.t 95),(.t 96)] [.d .bool] [] false) 88 true,
    og 98 (.not (.t 97)) 88 true,
    o_ 99 (.pick (.t 88) (.t 98) (.c .bool false))]) (BCq)) (BCp))) (BCo)
def BCj:Cd:=.tidy [] [] [] (some 1)
def AL3:Cd:=.seq (.seq (.seq (.seq (.reg false [mv 76 5,
    bc 77 .lss 76 4]) (BCm)) (BCl)) (BCk)) (BCj)
def BCi:Cd:=.block 2 (.loop (AL3))
def BC1:Cd:=td [100,101,102,103]
def BC2:Cd:=.skip
def BDa:Cd:=.exit 4
def BC0:Cd:=.cond (.t 104) (.seq (td [104]) (BC2)) (.seq (td [104]) (BDa))
def BC5:Cd:=td [107,108,109,110,111,112]
def BC7:Cd:=td [114,115]
def BC6:Cd:=.seq (.reg false [mv 114 6,
    bc 115 .add 114 1,
    mv 6 115]) (BC7)
def BC9:Cd:=.skip
def BC4:Cd:=.cond (.t 113) (.seq (td [113]) (BC6)) (.seq (td [113]) (BC9))
def BC8:Cd:=td [105,106]
def BC3:Cd:=.seq (.reg false [mv 105 7,
    bc 106 .add 105 1,
    mv 7 106]) (BC8)
def BCz:Cd:=.seq (.block 5 (.seq (.seq (.reg false [fa 107 Xa 3 1,
    o_ 108 (.load (.d (.sl (.int .i64))) (.t 107)),
    mv 109 7,
    ix 110 (.sl (.int .i64)) 108 109,
    ld 111 (.int .i64) 110,
    mv 112 4,
    bi 113 .eql 111 112]) (BC5)) (BC4))) (BC3)
def BCy:Cd:=.tidy [] [] [] (some 1)
def AL5:Cd:=.seq (.seq (.seq (.seq (.reg false [mv 100 7,
    fa 101 Xa 3 1,
    o_ 102 (.load (.d (.sl (.int .i64))) (.t 101)),
    le 103 102,
    bi 104 .lss 100 103]) (BC1)) (BC0)) (BCz)) (BCy)
def BCx:Cd:=.block 4 (.loop (AL5))
def BDc:Cd:=td [116,117,118]
def BDe:Cd:=.ret
def BDd:Cd:=.seq (.reg false [o_ 2 (.move (.c .bool false))]) (BDe)
def BDf:Cd:=.skip
def BDb:Cd:=.cond (.t 119) (.seq (td [119]) (BDd)) (.seq (td [119]) (BDf))
def AL4:Cd:=.seq (.seq (.reg false [mv 116 6,
    fa 117 Xa 5 1,
    ld 118 (.int .i64) 117,
    bi 119 .gtr 116 118]) (BDc)) (BDb)
def BCw:Cd:=.seq (.seq (.reg false [ci 7 0]) (BCx)) (AL4)
def AL2:Cd:=.seq (.reg false [ci 6 0]) (BCw)
def BDg:Cd:=td [74,75]
def Lm:Cd:=.seq (.reg false [mv 74 4,
    bc 75 .add 74 1,
    mv 4 75]) (BDg)
def BCe:Cd:=.seq (.block 1 (.seq (.seq (.reg false [ci 5 0]) (BCi)) (AL2))) (Lm)
def Ll:Cd:=.tidy [5,6,7] [] [] (some 1)
def Nk:Cd:=.seq (.seq (.seq (.seq (.reg false [mv 71 4,
    mv 72 3,
    bi 73 .lss 71 72]) (BCg)) (BCf)) (BCe)) (Ll)
def BCd:Cd:=.block 0 (.loop (Nk))
def BDm:Cd:=td [120,121,122,123]
def BDn:Cd:=.skip
def BDv:Cd:=.exit 6
def BDl:Cd:=.cond (.t 124) (.seq (td [124]) (BDn)) (.seq (td [124]) (BDv))
def BDq:Cd:=td [127,128,129,130,131,132,133,134,135,136,137,138,139,140,141,142]
def BDs:Cd:=.ret
def BDr:Cd:=.seq (.reg false [o_ 2 (.move (.c .bool false))]) (BDs)
def BDt:Cd:=.skip
def BDp:Cd:=.cond (.t 143) (.seq (td [143]) (BDr)) (.seq (td [143]) (BDt))
def BDu:Cd:=td [125,126]
def BDo:Cd:=.seq (.reg false [mv 125 8,
    bc 126 .add 125 1,
    mv 8 126]) (BDu)
def BDk:Cd:=.seq (.block 7 (.seq (.seq (.reg false [fa 127 Xa 1 1,
    o_ 128 (.load (.d (.sl (.int .i64))) (.t 127)),
    mv 129 8,
    ix 130 (.sl (.int .i64)) 128 129,
    ld 131 (.int .i64) 130,
    mv 132 3,
    o_ 133 (.call (.f 37) [(.t 131),(.t 132)] [.d .bool] [] false),
    nt 134 133,
    mv 135 134,
    og 136 (.fieldAddr (.d Xa) 2 (.t 1)) 135 false,
    og 137 (.load (.d (.sl (.int .i64))) (.t 136)) 135 false,
    og 138 (.move (.t 8)) 135 false,
    og 139 (.index (.sl (.int .i64)) (.t 137) (.t 138)) 135 false,
    og 140 (.load (.d (.int .i64)) (.t 139)) 135 false,
    og 141 (.call (.f 38) [(.t 140)] [.d .bool] [] false) 135 false,
    og 142 (.not (.t 141)) 135 false,
    o_ 143 (.pick (.t 135) (.c .bool true) (.t 142))]) (BDq)) (BDp))) (BDo)
def BDj:Cd:=.tidy [] [] [] (some 1)
def AL7:Cd:=.seq (.seq (.seq (.seq (.reg false [mv 120 8,
    fa 121 Xa 1 1,
    o_ 122 (.load (.d (.sl (.int .i64))) (.t 121)),
    le 123 122,
    bi 124 .lss 120 123]) (BDm)) (BDl)) (BDk)) (BDj)
def BDi:Cd:=.block 6 (.loop (AL7))
def BD0:Cd:=td [144,145,146,147]
def BD1:Cd:=.skip
def BD9:Cd:=.exit 8
def BDz:Cd:=.cond (.t 148) (.seq (td [148]) (BD1)) (.seq (td [148]) (BD9))
def BD4:Cd:=td [151,152,153,154,155,156,157]
def BD6:Cd:=.ret
def BD5:Cd:=.seq (.reg false [o_ 2 (.move (.c .bool false))]) (BD6)
def BD7:Cd:=.skip
def BD3:Cd:=.cond (.t 158) (.seq (td [158]) (BD5)) (.seq (td [158]) (BD7))
def BD8:Cd:=td [149,150]
def BD2:Cd:=.seq (.reg false [mv 149 9,
    bc 150 .add 149 1,
    mv 9 150]) (BD8)
def BDy:Cd:=.seq (.block 9 (.seq (.seq (.reg false [fa 151 Xa 3 1,
    o_ 152 (.load (.d (.sl (.int .i64))) (.t 151)),
    mv 153 9,
    ix 154 (.sl (.int .i64)) 152 153,
    ld 155 (.int .i64) 154,
    mv 156 3,
    o_ 157 (.call (.f 37) [(.t 155),(.t 156)] [.d .bool] [] false),
    nt 158 157]) (BD4)) (BD3))) (BD2)
def BDx:Cd:=.tidy [] [] [] (some 1)
def AL9:Cd:=.seq (.seq (.seq (.seq (.reg false [mv 144 9,
    fa 145 Xa 3 1,
    o_ 146 (.load (.d (.sl (.int .i64))) (.t 145)),
    le 147 146,
    bi 148 .lss 144 147]) (BD0)) (BDz)) (BDy)) (BDx)
def BDw:Cd:=.block 8 (.loop (AL9))
def BEa:Cd:=.ret
def AL8:Cd:=.seq (.reg false [o_ 2 (.move (.c .bool true))]) (BEa)
def AL6:Cd:=.seq (.seq (.reg false [ci 9 0]) (BDw)) (AL8)
def V3:Cd:=.seq (.seq (.reg false [ci 8 0]) (BDi)) (AL6)
def BPd:Cd:=.seq (.seq (.reg false [ci 4 0]) (BCd)) (V3)
def BO7:Cd:=.seq (.seq (.seq (.reg false [fa 55 Xa 5 1,
    ld 56 (.int .i64) 55,
    o_ 57 (.call (.f 37) [(.t 56),(.c (.int .i64) (65:Int))] [.d .bool] [] false),
    nt 58 57,
    mv 59 58,
    og 60 (.fieldAddr (.d Xa) 6 (.t 1)) 59 false,
    og 61 (.load (.d (.int .i64)) (.t 60)) 59 false,
    og 62 (.call (.f 37) [(.t 61),(.c (.int .i64) (65:Int))] [.d .bool] [] false) 59 false,
    og 63 (.not (.t 62)) 59 false,
    o_ 64 (.pick (.t 59) (.c .bool true) (.t 63)),
    mv 65 64,
    og 66 (.fieldAddr (.d Xa) 7 (.t 1)) 65 false,
    og 67 (.load (.d (.int .i64)) (.t 66)) 65 false,
    og 68 (.call (.f 37) [(.t 67),(.c (.int .i64) (65:Int))] [.d .bool] [] false) 65 false,
    og 69 (.not (.t 68)) 65 false,
    o_ 70 (.pick (.t 65) (.c .bool true) (.t 69))]) (BB9)) (BB8)) (BPd)
def BO5:Cd:=.seq (.seq (.seq (.reg false [mv 13 3,
    bc 14 .lss 13 1,
    mv 15 14,
    og 16 (.move (.t 3)) 15 false,
    og 17 (.bin .gtr (.t 16) (.c (.int .i64) (8:Int))) 15 false,
    o_ 18 (.pick (.t 15) (.c .bool true) (.t 17)),
    mv 19 18,
    og 20 (.fieldAddr (.d Xa) 1 (.t 1)) 19 false,
    og 21 (.load (.d (.sl (.int .i64))) (.t 20)) 19 false,
    og 22 (.len (.t 21)) 19 false,
    og 23 (.bin .lss (.t 22) (.c (.int .i64) (1:Int))) 19 false,
    o_ 24 (.pick (.t 19) (.c .bool true) (.t 23)),
    mv 25 24,
    og 26 (.fieldAddr (.d Xa) 1 (.t 1)) 25 false,
    og 27 (.load (.d (.sl (.int .i64))) (.t 26)) 25 false,
    og 28 (.len (.t 27)) 25 false,
    og 29 (.bin .gtr (.t 28) (.c (.int .i64) (6:Int))) 25 false,
    o_ 30 (.pick (.t 25) (.c .bool true) (.t 29)),
    mv 31 30,
    og 32 (.fieldAddr (.d Xa) 2 (.t 1)) 31 false,
    og 33 (.load (.d (.sl (.int .i64))) (.t 32)) 31 false,
    og 34 (.len (.t 33)) 31 false,
    og 35 (.fieldAddr (.d Xa) 1 (.t 1)) 31 false,
    og 36 (.load (.d (.sl (.int .i64))) (.t 35)) 31 false,
    og 37 (.len (.t 36)) 31 false,
    og 38 (.bin .neq (.t 34) (.t 37)) 31 false,
    o_ 39 (.pick (.t 31) (.c .bool true) (.t 38)),
    mv 40 39,
    og 41 (.fieldAddr (.d Xa) 3 (.t 1)) 40 false,
    og 42 (.load (.d (.sl (.int .i64))) (.t 41)) 40 false,
    og 43 (.len (.t 42)) 40 false,
    og 44 (.bin .gtr (.t 43) (.c (.int .i64) (16:Int))) 40 false,
    o_ 45 (.pick (.t 40) (.c .bool true) (.t 44)),
    mv 46 45,
    og 47 (.fieldAddr (.d Xa) 4 (.t 1)) 46 false,
    og 48 (.load (.d (.sl .bool)) (.t 47)) 46 false,
    og 49 (.len (.t 48)) 46 false,
    og 50 (.fieldAddr (.d Xa) 3 (.t 1)) 46 false,
    og 51 (.load (.d (.sl (.int .i64))) (.t 50)) 46 false,
    og 52 (.len (.t 51)) 46 false,
    og 53 (.bin .neq (.t 49) (.t 52)) 46 false,
    o_ 54 (.pick (.t 46) (.c .bool true) (.t 53))]) (BO9)) (BO8)) (BO7)
def BO4:Cd:=.seq (.seq (.reg false [fa 10 Xa 0 1,
    o_ 11 (.load (.d (.sl (.arr 4 (.int .i64)))) (.t 10)),
    le 12 11,
    mv 3 12]) (BO6)) (BO5)
def Zc.fn:Fn:=⟨1,[.tmp 2],.seq (.reg false [bx 1 0 0,
    o_ 2 (.move (.c .bool false))]) (BO4)⟩
def BPp:Cd:=td [6,7]
def BPq:Cd:=.skip
def BEj:Cd:=.exit 0
def BPo:Cd:=.cond (.t 8) (.seq (td [8]) (BPq)) (.seq (td [8]) (BEj))
def BEb:Cd:=td [9,10]
def BEe:Cd:=td [11]
def BEg:Cd:=.ret
def BEf:Cd:=.seq (.reg false [ci 4 99]) (BEg)
def BEh:Cd:=.skip
def BEd:Cd:=.cond (.t 12) (.seq (td [12]) (BEf)) (.seq (td [12]) (BEh))
def BEi:Cd:=td [13,14,15,16,17,18]
def BEc:Cd:=.seq (.reg false [fa 13 Zb 3 2,
    ld 14 (.sl Za) 13,
    fa 15 Za 1 3,
    ld 16 (.int .i64) 15,
    ix 17 (.sl Za) 14 16,
    ld 18 Za 17,
    sr Za 3 18]) (BEi)
def BPr:Cd:=.seq (.seq (.seq (.reg false [mv 11 5,
    bc 12 .gtr 11 50]) (BEe)) (BEd)) (BEc)
def BPn:Cd:=.block 1 (.seq (.seq (.reg false [mv 9 5,
    bc 10 .add 9 1,
    mv 5 10]) (BEb)) (BPr))
def BPm:Cd:=.tidy [] [] [] (some 2)
def ATe:Cd:=.seq (.seq (.seq (.seq (.reg false [fa 6 Za 0 3,
    ld 7 (.int .i64) 6,
    bc 8 .eql 7 2]) (BPp)) (BPo)) (BPn)) (BPm)
def BEl:Cd:=td [19]
def BEk:Cd:=.ret
def ATd:Cd:=.seq (.seq (.reg false [mv 19 5,
    mv 4 19]) (BEl)) (BEk)
def BPl:Cd:=.seq (.block 0 (.loop (ATe))) (ATd)
def BPk:Cd:=.seq (.reg false [ci 5 0]) (BPl)
def Z1.fn:Fn:=⟨2,[.tmp 4],.seq (.reg false [bx 2 0 0,
    bx 3 1 1,
    ci 4 0]) (BPk)⟩
def BQn:Cd:=td [7,8,9,10]
def BQo:Cd:=.skip
def BEt:Cd:=.exit 0
def BQm:Cd:=.cond (.t 11) (.seq (td [11]) (BQo)) (.seq (td [11]) (BEt))
def BEo:Cd:=td [14,15,16,17,18,19]
def BEq:Cd:=td [21,22]
def BEp:Cd:=.seq (.reg false [mv 21 5,
    bc 22 .add 21 1,
    mv 5 22]) (BEq)
def BEs:Cd:=.skip
def BEn:Cd:=.cond (.t 20) (.seq (td [20]) (BEp)) (.seq (td [20]) (BEs))
def BEr:Cd:=td [12,13]
def BEm:Cd:=.seq (.reg false [mv 12 6,
    bc 13 .add 12 1,
    mv 6 13]) (BEr)
def BQl:Cd:=.seq (.block 1 (.seq (.seq (.reg true [od 14 (.fieldAddr (.d Zb) 3 (.t 2)) [0] [],
    od 15 (.load (.d (.sl Za)) (.t 14)) [0] [],
    mv 16 6,
    ix 17 (.sl Za) 15 16,
    ld 18 Za 17,
    od 19 (.load (.d Za) (.t 3)) [1] [],
    o_ 20 (.eqs Za false (.t 18) (.t 19))]) (BEo)) (BEn))) (BEm)
def BQk:Cd:=.tidy [] [] [] (some 2)
def ATi:Cd:=.seq (.seq (.seq (.seq (.reg false [mv 7 6,
    fa 8 Zb 3 2,
    ld 9 (.sl Za) 8,
    le 10 9,
    bi 11 .lss 7 10]) (BQn)) (BQm)) (BQl)) (BQk)
def BQj:Cd:=.block 0 (.loop (ATi))
def BEv:Cd:=td [23]
def BEu:Cd:=.ret
def ATh:Cd:=.seq (.seq (.reg false [mv 23 5,
    mv 4 23]) (BEv)) (BEu)
def BQi:Cd:=.seq (.seq (.reg false [ci 6 0]) (BQj)) (ATh)
def BQh:Cd:=.seq (.reg false [ci 5 0]) (BQi)
def Z3.fn:Fn:=⟨2,[.tmp 4],.seq (.reg false [bx 2 0 0,
    bx 3 1 1,
    ci 4 0]) (BQh)⟩
def BQr:Cd:=td [5,6,7,8,9,10,11,12,13,14,15,16,17,18]
def BQq:Cd:=.ret
def BQp:Cd:=.seq (.seq (.reg false [fa 5 Zb 0 2,
    fa 6 Xa 5 5,
    ld 7 (.int .i64) 6,
    fa 8 Zb 0 2,
    fa 9 Xa 6 8,
    ld 10 (.int .i64) 9,
    fa 11 Zb 0 2,
    fa 12 Xa 7 11,
    ld 13 (.int .i64) 12,
    o_ 14 (.slice 2 (.int .i64) [(.t 7),(.t 10),(.t 13)]),
    fa 15 Za 0 3,
    ld 16 (.int .i64) 15,
    ix 17 (.sl (.int .i64)) 14 16,
    ld 18 (.int .i64) 17,
    mv 4 18]) (BQr)) (BQq)
def Yo.fn:Fn:=⟨2,[.tmp 4],.seq (.reg false [bx 2 0 0,
    bx 3 1 1,
    ci 4 0]) (BQp)⟩
def BNl:Cd:=td [9,10]
def BNo:Cd:=td [11,12,13,14,15,16,17,18,19,20,21,22,23,24,25,26,27,28,29,30,31,32,33,34,35,36,37,38,39]
def BNq:Cd:=.ret
def BNp:Cd:=.seq (.reg false [o_ 2 (.move (.c .bool false))]) (BNq)
def BNr:Cd:=.skip
def BNn:Cd:=.cond (.t 40) (.seq (td [40]) (BNp)) (.seq (td [40]) (BNr))
def BAk:Cd:=td [41,42,43,44]
def BAl:Cd:=.skip
def BAt:Cd:=.exit 0
def BAj:Cd:=.cond (.t 45) (.seq (td [45]) (BAl)) (.seq (td [45]) (BAt))
def BAo:Cd:=td [48,49,50,51,52,53,54,55,56,57,58,59,60,61,62,63,64,65]
def BAq:Cd:=.ret
def BAp:Cd:=.seq (.reg false [o_ 2 (.move (.c .bool false))]) (BAq)
def BAr:Cd:=.skip
def BAn:Cd:=.cond (.t 66) (.seq (td [66]) (BAp)) (.seq (td [66]) (BAr))
def BAs:Cd:=td [46,47]
def BAm:Cd:=.seq (.reg false [mv 46 4,
    bc 47 .add 46 1,
    mv 4 47]) (BAs)
def BAi:Cd:=.seq (.block 1 (.seq (.seq (.reg true [od 48 (.fieldAddr (.d Zb) 1 (.t 1)) [0] [],
    od 49 (.load (.d (.sl (.int .i64))) (.t 48)) [0] [],
    mv 50 4,
    ix 51 (.sl (.int .i64)) 49 50,
    ld 52 (.int .i64) 51,
    od 53 (.fieldAddr (.d Xa) 0 (.t 3)) [1] [],
    od 54 (.load (.d (.sl (.arr 4 (.int .i64)))) (.t 53)) [1] [],
    le 55 54,
    o_ 56 (.call (.f 37) [(.t 52),(.t 55)] [.d .bool] [] false),
    nt 57 56,
    mv 58 57,
    ogd 59 (.fieldAddr (.d Zb) 2 (.t 1)) 58 false [0],
    ogd 60 (.load (.d (.sl (.int .i64))) (.t 59)) 58 false [0],
    og 61 (.move (.t 4)) 58 false,
    og 62 (.index (.sl (.int .i64)) (.t 60) (.t 61)) 58 false,
    og 63 (.load (.d (.int .i64)) (.t 62)) 58 false,
    og 64 (.call (.f 38) [(.t 63)] [.d .bool] [] false) 58 false,
    og 65 (.not (.t 64)) 58 false,
    o_ 66 (.pick (.t 58) (.c .bool true) (.t 65))]) (BAo)) (BAn))) (BAm)
def BAh:Cd:=.tidy [] [] [] (some 2)
def ALw:Cd:=.seq (.seq (.seq (.seq (.reg false [mv 41 4,
    fa 42 Zb 1 1,
    o_ 43 (.load (.d (.sl (.int .i64))) (.t 42)),
    le 44 43,
    bi 45 .lss 41 44]) (BAk)) (BAj)) (BAi)) (BAh)
def BAg:Cd:=.block 0 (.loop (ALw))
def BAy:Cd:=td [67,68,69,70]
def BAz:Cd:=.skip
def BBb:Cd:=.exit 2
def BAx:Cd:=.cond (.t 71) (.seq (td [71]) (BAz)) (.seq (td [71]) (BBb))
def BA2:Cd:=td [74,75,76,77,78]
def BA4:Cd:=td [79,80,81,82,83,84,85,86,87,88,89,90,91,92,93,94,95,96,97,98,99,100,101,102,103,104,105,106,107,108,109,110,111,112,113,114,115,116,117,118,119,120,121,122,123]
def BA6:Cd:=td [124]
def BBa:Cd:=.ret
def BA9:Cd:=.seq (.reg false [o_ 2 (.move (.c .bool false))]) (BBa)
def BA7:Cd:=.skip
def BA5:Cd:=.cond (.t 125) (.seq (td [125]) (BA9)) (.seq (td [125]) (BA7))
def BA3:Cd:=.seq (.seq (.reg false [mv 124 7,
    nt 125 124]) (BA6)) (BA5)
def BA1:Cd:=.seq (.seq (.reg false [fa 79 Za 0 6,
    ld 80 (.int .i64) 79,
    bc 81 .eql 80 0,
    mv 82 81,
    og 83 (.fieldAddr (.d Za) 1 (.t 6)) 82 true,
    og 84 (.load (.d (.int .i64)) (.t 83)) 82 true,
    og 85 (.fieldAddr (.d Xa) 0 (.t 3)) 82 true,
    og 86 (.load (.d (.sl (.arr 4 (.int .i64)))) (.t 85)) 82 true,
    og 87 (.len (.t 86)) 82 true,
    og 88 (.call (.f 37) [(.t 84),(.t 87)] [.d .bool] [] false) 82 true,
    o_ 89 (.pick (.t 82) (.t 88) (.c .bool false)),
    mv 90 89,
    og 91 (.fieldAddr (.d Za) 0 (.t 6)) 90 false,
    og 92 (.load (.d (.int .i64)) (.t 91)) 90 false,
    og 93 (.bin .eql (.t 92) (.c (.int .i64) (1:Int))) 90 false,
    og 94 (.move (.t 93)) 90 false,
    og 95 (.fieldAddr (.d Za) 1 (.t 6)) 94 true,
    og 96 (.load (.d (.int .i64)) (.t 95)) 94 true,
    og 97 (.fieldAddr (.d Xa) 1 (.t 3)) 94 true,
    og 98 (.load (.d (.sl (.int .i64))) (.t 97)) 94 true,
    og 99 (.len (.t 98)) 94 true,
    og 100 (.call (.f 37) [(.t 96),(.t 99)] [.d .bool] [] false) 94 true,
    og 101 (.pick (.t 94) (.t 100) (.c .bool false)) 90 false,
    o_ 102 (.pick (.t 90) (.c .bool true) (.t 101)),
    mv 103 102,
    og 104 (.fieldAddr (.d Za) 0 (.t 6)) 103 false,
    og 105 (.load (.d (.int .i64)) (.t 104)) 103 false,
    og 106 (.bin .eql (.t 105) (.c (.int .i64) (2:Int))) 103 false,
    og 107 (.move (.t 106)) 103 false,
    og 108 (.fieldAddr (.d Za) 1 (.t 6)) 107 true,
    og 109 (.load (.d (.int .i64)) (.t 108)) 107 true,
    og 110 (.fieldAddr (.d Xa) 3 (.t 3)) 107 true,
    og 111 (.load (.d (.sl (.int .i64))) (.t 110)) 107 true,
    og 112 (.len (.t 111)) 107 true,
    og 113 (.call (.f 37) [(.t 109),(.t 112)] [.d .bool] [] false) 107 true,
    og 114 (.pick (.t 107) (.t 113) (.c .bool false)) 103 false,
    og 115 (.move (.t 114)) 103 false,
    og 116 (.fieldAddr (.d Xa) 4 (.t 3)) 115 true,
    og 117 (.load (.d (.sl .bool)) (.t 116)) 115 true,
    og 118 (.fieldAddr (.d Za) 1 (.t 6)) 115 true,
    og 119 (.load (.d (.int .i64)) (.t 118)) 115 true,
    og 120 (.index (.sl .bool) (.t 117) (.t 119)) 115 true,
    og 121 (.load (.d .bool) (.t 120)) 115 true,
    og 122 (.pick (.t 115) (.t 121) (.c .bool false)) 103 false,
    o_ 123 (.pick (.t 103) (.c .bool true) (.t 122)),
    mv 7 123]) (BA4)) (BA3)
def BA8:Cd:=td [72,73]
def BA0:Cd:=.seq (.reg false [mv 72 5,
    bc 73 .add 72 1,
    mv 5 73]) (BA8)
def BAw:Cd:=.seq (.block 3 (.seq (.seq (.reg false [fa 74 Zb 3 1,
    ld 75 (.sl Za) 74,
    mv 76 5,
    ix 77 (.sl Za) 75 76,
    ld 78 Za 77,
    nb 6 2 Za,
    sr Za 6 78]) (BA2)) (BA1))) (BA0)
def BAv:Cd:=.tidy [6,7] [] [] (some 2)
def ALy:Cd:=.seq (.seq (.seq (.seq (.reg false [mv 67 5,
    fa 68 Zb 3 1,
    ld 69 (.sl Za) 68,
    le 70 69,
    bi 71 .lss 67 70]) (BAy)) (BAx)) (BAw)) (BAv)
def BAu:Cd:=.block 2 (.loop (ALy))
def BBg:Cd:=td [126,127,128,129]
def BBh:Cd:=.skip
def BBp:Cd:=.exit 4
def BBf:Cd:=.cond (.t 130) (.seq (td [130]) (BBh)) (.seq (td [130]) (BBp))
def BBk:Cd:=td [133,134,135,136,137,138,139,140,141,142,143,144,145,146,147,148,149,150,151,152,153,154,155,156]
def BBm:Cd:=.ret
def BBl:Cd:=.seq (.reg false [o_ 2 (.move (.c .bool false))]) (BBm)
def BBn:Cd:=.skip
def BBj:Cd:=.cond (.t 157) (.seq (td [157]) (BBl)) (.seq (td [157]) (BBn))
def BBo:Cd:=td [131,132]
def BBi:Cd:=.seq (.reg false [mv 131 8,
    bc 132 .add 131 1,
    mv 8 132]) (BBo)
def BBe:Cd:=.seq (.block 5 (.seq (.seq (.reg true [od 133 (.load (.d Zb) (.t 1)) [0] [],
    od 134 (.fieldAddr (.d Zb) 3 (.t 1)) [0] [],
    od 135 (.load (.d (.sl Za)) (.t 134)) [0] [],
    mv 136 8,
    ix 137 (.sl Za) 135 136,
    ld 138 Za 137,
    o_ 139 (.call (.f 39) [(.t 133),(.t 138)] [.d (.int .i64)] [] false),
    bc 140 .gtr 139 4,
    mv 141 140,
    ogd 142 (.load (.d Zb) (.t 1)) 141 false [0],
    ogd 143 (.fieldAddr (.d Zb) 3 (.t 1)) 141 false [0],
    ogd 144 (.load (.d (.sl Za)) (.t 143)) 141 false [0],
    og 145 (.move (.t 8)) 141 false,
    og 146 (.index (.sl Za) (.t 144) (.t 145)) 141 false,
    og 147 (.load (.d Za) (.t 146)) 141 false,
    og 148 (.call (.f 40) [(.t 142),(.t 147)] [.d (.int .i64)] [] false) 141 false,
    ogd 149 (.load (.d Zb) (.t 1)) 141 false [0],
    ogd 150 (.fieldAddr (.d Zb) 3 (.t 1)) 141 false [0],
    ogd 151 (.load (.d (.sl Za)) (.t 150)) 141 false [0],
    og 152 (.move (.t 8)) 141 false,
    og 153 (.index (.sl Za) (.t 151) (.t 152)) 141 false,
    og 154 (.load (.d Za) (.t 153)) 141 false,
    og 155 (.call (.f 41) [(.t 149),(.t 154)] [.d (.int .i64)] [] false) 141 false,
    og 156 (.bin .gtr (.t 148) (.t 155)) 141 false,
    o_ 157 (.pick (.t 141) (.c .bool true) (.t 156))]) (BBk)) (BBj))) (BBi)
def BBd:Cd:=.tidy [] [] [] (some 2)
def AL0:Cd:=.seq (.seq (.seq (.seq (.reg false [mv 126 8,
    fa 127 Zb 3 1,
    ld 128 (.sl Za) 127,
    le 129 128,
    bi 130 .lss 126 129]) (BBg)) (BBf)) (BBe)) (BBd)
def BBc:Cd:=.block 4 (.loop (AL0))
def BBq:Cd:=.ret
def ALz:Cd:=.seq (.reg false [o_ 2 (.move (.c .bool true))]) (BBq)
def ALx:Cd:=.seq (.seq (.reg false [ci 8 0]) (BBc)) (ALz)
def ATb:Cd:=.seq (.seq (.reg false [ci 5 0]) (BAu)) (ALx)
def BNm:Cd:=.seq (.seq (.reg false [ci 4 0]) (BAg)) (ATb)
def BNk:Cd:=.seq (.seq (.seq (.reg false [ld 11 Xa 3,
    o_ 12 (.call (.f 36) [(.t 11)] [.d .bool] [] false),
    nt 13 12,
    mv 14 13,
    og 15 (.fieldAddr (.d Zb) 1 (.t 1)) 14 false,
    og 16 (.load (.d (.sl (.int .i64))) (.t 15)) 14 false,
    og 17 (.len (.t 16)) 14 false,
    og 18 (.fieldAddr (.d Xa) 1 (.t 3)) 14 false,
    og 19 (.load (.d (.sl (.int .i64))) (.t 18)) 14 false,
    og 20 (.len (.t 19)) 14 false,
    og 21 (.bin .neq (.t 17) (.t 20)) 14 false,
    o_ 22 (.pick (.t 14) (.c .bool true) (.t 21)),
    mv 23 22,
    og 24 (.fieldAddr (.d Zb) 2 (.t 1)) 23 false,
    og 25 (.load (.d (.sl (.int .i64))) (.t 24)) 23 false,
    og 26 (.len (.t 25)) 23 false,
    og 27 (.fieldAddr (.d Xa) 1 (.t 3)) 23 false,
    og 28 (.load (.d (.sl (.int .i64))) (.t 27)) 23 false,
    og 29 (.len (.t 28)) 23 false,
    og 30 (.bin .neq (.t 26) (.t 29)) 23 false,
    o_ 31 (.pick (.t 23) (.c .bool true) (.t 30)),
    mv 32 31,
    og 33 (.fieldAddr (.d Zb) 3 (.t 1)) 32 false,
    og 34 (.load (.d (.sl Za)) (.t 33)) 32 false,
    og 35 (.len (.t 34)) 32 false,
    og 36 (.fieldAddr (.d Xa) 3 (.t 3)) 32 false,
    og 37 (.load (.d (.sl (.int .i64))) (.t 36)) 32 false,
    og 38 (.len (.t 37)) 32 false,
    og 39 (.bin .neq (.t 35) (.t 38)) 32 false,
    o_ 40 (.pick (.t 32) (.c .bool true) (.t 39))]) (BNo)) (BNn)) (BNm)
def BNj:Cd:=.seq (.seq (.reg false [fa 9 Zb 0 1,
    ld 10 Xa 9,
    nb 3 1 Xa,
    sr Xa 3 10]) (BNl)) (BNk)
def Zg.fn:Fn:=⟨1,[.tmp 2],.seq (.reg false [bx 1 0 0,
    o_ 2 (.move (.c .bool false))]) (BNj)⟩
def BY8:Cd:=td [3,4,5,6,7,8]
def BY7:Cd:=.ret
def BY6:Cd:=.seq (.seq (.reg false [ld 3 Zb 1,
    o_ 4 (.call (.f 21) [(.t 3)] [.d .bool] [] false),
    mv 5 4,
    og 6 (.load (.d Zb) (.t 1)) 5 true,
    og 7 (.call (.f 22) [(.t 6)] [.d .bool] [] false) 5 true,
    o_ 8 (.pick (.t 5) (.t 7) (.c .bool false)),
    mv 2 8]) (BY8)) (BY7)
def Yf.fn:Fn:=⟨1,[.tmp 2],.seq (.reg false [bx 1 0 0,
    o_ 2 (.move (.c .bool false))]) (BY6)⟩
def BZb:Cd:=td [3,4,5,6,7,8,9,10,11,12]
def BZa:Cd:=.ret
def BY9:Cd:=.seq (.seq (.reg false [fa 3 Z2 5 1,
    o_ 4 (.load (.d (.sl (.int .i64))) (.t 3)),
    le 5 4,
    bc 6 .leq 5 40,
    mv 7 6,
    og 8 (.fieldAddr (.d Z2) 7 (.t 1)) 7 true,
    og 9 (.load (.d (.sl (.int .i64))) (.t 8)) 7 true,
    og 10 (.len (.t 9)) 7 true,
    og 11 (.bin .leq (.t 10) (.c (.int .i64) (40:Int))) 7 true,
    o_ 12 (.pick (.t 7) (.t 11) (.c .bool false)),
    mv 2 12]) (BZb)) (BZa)
def Yn.fn:Fn:=⟨1,[.tmp 2],.seq (.reg false [bx 1 0 0,
    o_ 2 (.move (.c .bool false))]) (BY9)⟩
def BNv:Cd:=td [5]
def BNy:Cd:=td [7,8]
def BNx:Cd:=.ret
def BNw:Cd:=.seq (.seq (.reg false [mv 7 0,
    bc 8 .eql 7 0,
    mv 4 8]) (BNy)) (BNx)
def BNz:Cd:=.skip
def BNu:Cd:=.cond (.t 6) (.seq (td [6]) (BNw)) (.seq (td [6]) (BNz))
def BN1:Cd:=td [9,10,11,12,13,14]
def BN0:Cd:=.ret
def BNt:Cd:=.seq (.seq (.reg false [mv 9 0,
    bc 10 .geq 9 0,
    mv 11 10,
    og 12 (.move (.t 0)) 11 true,
    og 13 (.bin .leq (.t 12) (.c (.int .i64) (1073741824:Int))) 11 true,
    o_ 14 (.pick (.t 11) (.t 13) (.c .bool false)),
    mv 4 14]) (BN1)) (BN0)
def BNs:Cd:=.seq (.seq (.seq (.reg false [mv 5 1,
    nt 6 5]) (BNv)) (BNu)) (BNt)
def Zf.fn:Fn:=⟨2,[.tmp 4],.seq (.reg false [o_ 4 (.move (.c .bool false))]) (BNs)⟩
def BN5:Cd:=td [6]
def BN8:Cd:=td [8,9,10]
def BN7:Cd:=.ret
def BN6:Cd:=.seq (.seq (.reg false [mv 8 0,
    le 9 8,
    bc 10 .eql 9 0,
    mv 4 10]) (BN8)) (BN7)
def BN9:Cd:=.skip
def BN4:Cd:=.cond (.t 7) (.seq (td [7]) (BN6)) (.seq (td [7]) (BN9))
def BBu:Cd:=td [11,12,13]
def BBv:Cd:=.skip
def BB3:Cd:=.exit 0
def BBt:Cd:=.cond (.t 14) (.seq (td [14]) (BBv)) (.seq (td [14]) (BB3))
def BBy:Cd:=td [17,18,19,20,21]
def BB0:Cd:=.ret
def BBz:Cd:=.seq (.reg false [o_ 4 (.move (.c .bool false))]) (BB0)
def BB1:Cd:=.skip
def BBx:Cd:=.cond (.t 22) (.seq (td [22]) (BBz)) (.seq (td [22]) (BB1))
def BB2:Cd:=td [15,16]
def BBw:Cd:=.seq (.reg false [mv 15 5,
    bc 16 .add 15 1,
    mv 5 16]) (BB2)
def BBs:Cd:=.seq (.block 1 (.seq (.seq (.reg false [mv 17 0,
    mv 18 5,
    ix 19 (.sl (.int .i64)) 17 18,
    ld 20 (.int .i64) 19,
    o_ 21 (.call (.f 23) [(.t 20),(.c .bool true)] [.d .bool] [] false),
    nt 22 21]) (BBy)) (BBx))) (BBw)
def BBr:Cd:=.tidy [] [] [] (some 0)
def AL1:Cd:=.seq (.seq (.seq (.seq (.reg false [mv 11 5,
    mv 12 0,
    le 13 12,
    bi 14 .lss 11 13]) (BBu)) (BBt)) (BBs)) (BBr)
def BOa:Cd:=.block 0 (.loop (AL1))
def BB5:Cd:=td [23,24,25]
def BB4:Cd:=.ret
def ATc:Cd:=.seq (.seq (.reg false [mv 23 0,
    le 24 23,
    bc 25 .leq 24 16,
    mv 4 25]) (BB5)) (BB4)
def BN3:Cd:=.seq (.seq (.reg false [ci 5 0]) (BOa)) (ATc)
def BN2:Cd:=.seq (.seq (.seq (.reg false [mv 6 1,
    nt 7 6]) (BN5)) (BN4)) (BN3)
def Zh.fn:Fn:=⟨2,[.tmp 4],.seq (.reg false [o_ 4 (.move (.c .bool false))]) (BN2)⟩
def BZe:Cd:=td [4,5]
def BZh:Cd:=td [6,7,8,9,10,11,12,13,14,15,16,17,18,19,20,21,22,23,24,25,26,27,28,29]
def BZj:Cd:=.ret
def BZi:Cd:=.seq (.reg false [o_ 2 (.move (.c .bool false))]) (BZj)
def BZk:Cd:=.skip
def BZg:Cd:=.cond (.t 30) (.seq (td [30]) (BZi)) (.seq (td [30]) (BZk))
def BWk:Cd:=td [31,32,33,34,35,36,37,38,39,40,41,42,43,44,45,46,47,48,49,50,51,52,53,54,55,56,57,58,59,60,61,62,63,64,65,66,67,68,69,70,71,72,73,74,75,76,77,78,79,80,81,82,83,84,85,86,87,88,89,90,91,92,93]
def BZl:Cd:=.ret
def BZf:Cd:=.seq (.seq (.reg false [fa 31 Z2 2 1,
    ld 32 (.int .i64) 31,
    mv 33 3,
    bc 34 .geq 33 3,
    mv 35 34,
    og 36 (.move (.t 3)) 35 true,
    og 37 (.bin .leq (.t 36) (.c (.int .i64) (7:Int))) 35 true,
    o_ 38 (.pick (.t 35) (.t 37) (.c .bool false)),
    o_ 39 (.call (.f 23) [(.t 32),(.t 38)] [.d .bool] [] false),
    mv 40 39,
    og 41 (.fieldAddr (.d Z2) 3 (.t 1)) 40 true,
    og 42 (.load (.d (.int .i64)) (.t 41)) 40 true,
    og 43 (.move (.t 3)) 40 true,
    og 44 (.bin .eql (.t 43) (.c (.int .i64) (5:Int))) 40 true,
    og 45 (.move (.t 44)) 40 true,
    og 46 (.move (.t 3)) 45 false,
    og 47 (.bin .eql (.t 46) (.c (.int .i64) (6:Int))) 45 false,
    og 48 (.pick (.t 45) (.c .bool true) (.t 47)) 40 true,
    og 49 (.call (.f 23) [(.t 42),(.t 48)] [.d .bool] [] false) 40 true,
    o_ 50 (.pick (.t 40) (.t 49) (.c .bool false)),
    mv 51 50,
    og 52 (.fieldAddr (.d Z2) 4 (.t 1)) 51 true,
    og 53 (.load (.d (.int .i64)) (.t 52)) 51 true,
    og 54 (.move (.t 3)) 51 true,
    og 55 (.bin .eql (.t 54) (.c (.int .i64) (2:Int))) 51 true,
    og 56 (.move (.t 55)) 51 true,
    og 57 (.move (.t 3)) 56 false,
    og 58 (.bin .eql (.t 57) (.c (.int .i64) (7:Int))) 56 false,
    og 59 (.pick (.t 56) (.c .bool true) (.t 58)) 51 true,
    og 60 (.move (.t 59)) 51 true,
    og 61 (.move (.t 3)) 60 false,
    og 62 (.bin .eql (.t 61) (.c (.int .i64) (8:Int))) 60 false,
    og 63 (.pick (.t 60) (.c .bool true) (.t 62)) 51 true,
    og 64 (.call (.f 23) [(.t 53),(.t 63)] [.d .bool] [] false) 51 true,
    o_ 65 (.pick (.t 51) (.t 64) (.c .bool false)),
    mv 66 65,
    og 67 (.fieldAddr (.d Z2) 6 (.t 1)) 66 true,
    og 68 (.load (.d (.int .i64)) (.t 67)) 66 true,
    og 69 (.move (.t 3)) 66 true,
    og 70 (.bin .eql (.t 69) (.c (.int .i64) (8:Int))) 66 true,
    og 71 (.call (.f 23) [(.t 68),(.t 70)] [.d .bool] [] false) 66 true,
    o_ 72 (.pick (.t 66) (.t 71) (.c .bool false)),
    mv 73 72,
    og 74 (.fieldAddr (.d Z2) 8 (.t 1)) 73 true,
    og 75 (.load (.d (.int .i64)) (.t 74)) 73 true,
    og 76 (.move (.t 3)) 73 true,
    og 77 (.bin .eql (.t 76) (.c (.int .i64) (8:Int))) 73 true,
    og 78 (.call (.f 23) [(.t 75),(.t 77)] [.d .bool] [] false) 73 true,
    o_ 79 (.pick (.t 73) (.t 78) (.c .bool false)),
    mv 80 79,
    og 81 (.fieldAddr (.d Z2) 5 (.t 1)) 80 true,
    og 82 (.load (.d (.sl (.int .i64))) (.t 81)) 80 true,
    og 83 (.move (.t 3)) 80 true,
    og 84 (.bin .eql (.t 83) (.c (.int .i64) (8:Int))) 80 true,
    og 85 (.call (.f 24) [(.t 82),(.t 84)] [.d .bool] [] false) 80 true,
    o_ 86 (.pick (.t 80) (.t 85) (.c .bool false)),
    mv 87 86,
    og 88 (.fieldAddr (.d Z2) 7 (.t 1)) 87 true,
    og 89 (.load (.d (.sl (.int .i64))) (.t 88)) 87 true,
    og 90 (.move (.t 3)) 87 true,
    og 91 (.bin .eql (.t 90) (.c (.int .i64) (8:Int))) 87 true,
    og 92 (.call (.f 24) [(.t 89),(.t 91)] [.d .bool] [] false) 87 true,
    o_ 93 (.pick (.t 87) (.t 92) (.c .bool false)),
    mv 2 93]) (BWk)) (BZl)
def BZd:Cd:=.seq (.seq (.seq (.reg false [mv 6 3,
    bc 7 .lss 6 1,
    mv 8 7,
    og 9 (.move (.t 3)) 8 false,
    og 10 (.bin .gtr (.t 9) (.c (.int .i64) (10:Int))) 8 false,
    o_ 11 (.pick (.t 8) (.c .bool true) (.t 10)),
    mv 12 11,
    og 13 (.fieldAddr (.d Z2) 1 (.t 1)) 12 false,
    og 14 (.load (.d (.int .i64)) (.t 13)) 12 false,
    og 15 (.bin .lss (.t 14) (.c (.int .i64) (0:Int))) 12 false,
    o_ 16 (.pick (.t 12) (.c .bool true) (.t 15)),
    mv 17 16,
    og 18 (.fieldAddr (.d Z2) 1 (.t 1)) 17 false,
    og 19 (.load (.d (.int .i64)) (.t 18)) 17 false,
    og 20 (.bin .gtr (.t 19) (.c (.int .i64) (3:Int))) 17 false,
    o_ 21 (.pick (.t 17) (.c .bool true) (.t 20)),
    mv 22 21,
    og 23 (.fieldAddr (.d Z2) 1 (.t 1)) 22 false,
    og 24 (.load (.d (.int .i64)) (.t 23)) 22 false,
    og 25 (.bin .neq (.t 24) (.c (.int .i64) (0:Int))) 22 false,
    og 26 (.move (.t 25)) 22 false,
    og 27 (.move (.t 3)) 26 true,
    og 28 (.bin .gtr (.t 27) (.c (.int .i64) (2:Int))) 26 true,
    og 29 (.pick (.t 26) (.t 28) (.c .bool false)) 22 false,
    o_ 30 (.pick (.t 22) (.c .bool true) (.t 29))]) (BZh)) (BZg)) (BZf)
def BZc:Cd:=.seq (.seq (.reg false [fa 4 Z2 0 1,
    ld 5 (.int .i64) 4,
    mv 3 5]) (BZe)) (BZd)
def Yd.fn:Fn:=⟨1,[.tmp 2],.seq (.reg false [bx 1 0 0,
    o_ 2 (.move (.c .bool false))]) (BZc)⟩
def BUk:Cd:=td [5,6,7,8,9,10,11]
def BUm:Cd:=.ret
def BUl:Cd:=.seq (.reg false [o_ 4 (.move (.c .str (⟨#[]⟩:ByteArray)))]) (BUm)
def BUn:Cd:=.skip
def BUj:Cd:=.cond (.t 12) (.seq (td [12]) (BUl)) (.seq (td [12]) (BUn))
def BUp:Cd:=td [13,14,15,16]
def BUo:Cd:=.ret
def BUi:Cd:=.seq (.seq (.reg false [mv 13 0,
    mv 14 1,
    ix 15 (.sl .str) 13 14,
    ld 16 .str 15,
    mv 4 16]) (BUp)) (BUo)
def BUh:Cd:=.seq (.seq (.seq (.reg false [mv 5 1,
    bc 6 .lss 5 0,
    mv 7 6,
    og 8 (.move (.t 1)) 7 false,
    og 9 (.move (.t 0)) 7 false,
    og 10 (.len (.t 9)) 7 false,
    og 11 (.bin .geq (.t 8) (.t 10)) 7 false,
    o_ 12 (.pick (.t 7) (.c .bool true) (.t 11))]) (BUk)) (BUj)) (BUi)
def K8.fn:Fn:=⟨2,[.tmp 4],.seq (.reg false [o_ 4 (.move (.c .str (⟨#[]⟩:ByteArray)))]) (BUh)⟩
def BQu:Cd:=td [3,4,5]
def BQt:Cd:=.ret
def BQs:Cd:=.seq (.seq (.reg false [o_ 3 (.slicearr 11 .str (.g 0)),
    mv 4 0,
    o_ 5 (.call (.f 77) [(.t 3),(.t 4)] [.d .str] [] false),
    mv 2 5]) (BQu)) (BQt)
def Ho.fn:Fn:=⟨1,[.tmp 2],.seq (.reg false [o_ 2 (.move (.c .str (⟨#[]⟩:ByteArray)))]) (BQs)⟩
def BQ0:Cd:=td [4,5,6]
def BQ3:Cd:=td [7]
def BQ5:Cd:=td [10]
def BQ7:Cd:=td [11,12,13]
def BQ6:Cd:=.seq (.reg false [fa 11 Z2 1 1,
    ld 12 (.int .i64) 11,
    fa 13 Z2 1 3,
    sr (.int .i64) 13 12]) (BQ7)
def BE0:Cd:=td [15]
def BE2:Cd:=td [16,17,18,19,20,21]
def BE1:Cd:=.seq (.reg true [od 16 (.fieldAddr (.d Z2) 4 (.t 1)) [0] [],
    od 17 (.load (.d (.int .i64)) (.t 16)) [0] [],
    od 18 (.fieldAddr (.d Z2) 1 (.t 1)) [0] [],
    od 19 (.load (.d (.int .i64)) (.t 18)) [0] [],
    od 20 (.fieldAddr (.d Z2) 4 (.t 3)) [2] [],
    ⟨none,.store (.d (.int .i64)) (.t 20) (.t 17),none,[],[2]⟩,
    od 21 (.fieldAddr (.d Z2) 1 (.t 3)) [2] [],
    ⟨none,.store (.d (.int .i64)) (.t 21) (.t 19),none,[],[2]⟩]) (BE2)
def BE6:Cd:=td [23]
def BFn:Cd:=td [24]
def BE5:Cd:=.cond (.t 22) (.skip) (.seq (.reg false [bc 24 .eql 8 4,
    mv 22 24]) (BFn))
def BE7:Cd:=td [25,26,27]
def BFa:Cd:=td [29]
def BFm:Cd:=td [30]
def BE9:Cd:=.cond (.t 28) (.skip) (.seq (.reg false [bc 30 .eql 8 6,
    mv 28 30]) (BFm))
def BFb:Cd:=td [31,32,33,34,35,36]
def BFd:Cd:=td [38]
def BFf:Cd:=td [39,40,41,42,43,44]
def BFe:Cd:=.seq (.reg true [od 39 (.fieldAddr (.d Z2) 2 (.t 1)) [0] [],
    od 40 (.load (.d (.int .i64)) (.t 39)) [0] [],
    od 41 (.fieldAddr (.d Z2) 4 (.t 1)) [0] [],
    od 42 (.load (.d (.int .i64)) (.t 41)) [0] [],
    od 43 (.fieldAddr (.d Z2) 2 (.t 3)) [2] [],
    ⟨none,.store (.d (.int .i64)) (.t 43) (.t 40),none,[],[2]⟩,
    od 44 (.fieldAddr (.d Z2) 4 (.t 3)) [2] [],
    ⟨none,.store (.d (.int .i64)) (.t 44) (.t 42),none,[],[2]⟩]) (BFf)
def BFi:Cd:=td [46]
def BFk:Cd:=td [47,48,49,50,51,52,53,54,55,56,57,58,59,60,61]
def BFj:Cd:=.seq (.reg true [od 47 (.fieldAddr (.d Z2) 4 (.t 1)) [0] [],
    od 48 (.load (.d (.int .i64)) (.t 47)) [0] [],
    od 49 (.fieldAddr (.d Z2) 5 (.t 1)) [0] [],
    od 50 (.load (.d (.sl (.int .i64))) (.t 49)) [0] [],
    od 51 (.fieldAddr (.d Z2) 6 (.t 1)) [0] [],
    od 52 (.load (.d (.int .i64)) (.t 51)) [0] [],
    od 53 (.fieldAddr (.d Z2) 7 (.t 1)) [0] [],
    od 54 (.load (.d (.sl (.int .i64))) (.t 53)) [0] [],
    od 55 (.fieldAddr (.d Z2) 8 (.t 1)) [0] [],
    od 56 (.load (.d (.int .i64)) (.t 55)) [0] [],
    od 57 (.fieldAddr (.d Z2) 4 (.t 3)) [2] [],
    ⟨none,.store (.d (.int .i64)) (.t 57) (.t 48),none,[],[2]⟩,
    od 58 (.fieldAddr (.d Z2) 5 (.t 3)) [2] [],
    ⟨none,.store (.d (.sl (.int .i64))) (.t 58) (.t 50),none,[],[2]⟩,
    od 59 (.fieldAddr (.d Z2) 6 (.t 3)) [2] [],
    ⟨none,.store (.d (.int .i64)) (.t 59) (.t 52),none,[],[2]⟩,
    od 60 (.fieldAddr (.d Z2) 7 (.t 3)) [2] [],
    ⟨none,.store (.d (.sl (.int .i64))) (.t 60) (.t 54),none,[],[2]⟩,
    od 61 (.fieldAddr (.d Z2) 8 (.t 3)) [2] [],
    ⟨none,.store (.d (.int .i64)) (.t 61) (.t 56),none,[],[2]⟩]) (BFk)
def BFl:Cd:=.skip
def BFh:Cd:=.cond (.t 45) (.seq (td [45]) (BFj)) (.seq (td [45]) (BFl))
def BFg:Cd:=.seq (.seq (.reg false [bc 46 .eql 8 8,
    mv 45 46]) (BFi)) (BFh)
def BFc:Cd:=.cond (.t 37) (.seq (td [37]) (BFe)) (.seq (td [37]) (BFg))
def BE8:Cd:=.cond (.t 28) (.seq (.reg true [od 31 (.fieldAddr (.d Z2) 2 (.t 1)) [0] [],
    od 32 (.load (.d (.int .i64)) (.t 31)) [0] [],
    od 33 (.fieldAddr (.d Z2) 3 (.t 1)) [0] [],
    od 34 (.load (.d (.int .i64)) (.t 33)) [0] [],
    od 35 (.fieldAddr (.d Z2) 2 (.t 3)) [2] [],
    ⟨none,.store (.d (.int .i64)) (.t 35) (.t 32),none,[],[2]⟩,
    od 36 (.fieldAddr (.d Z2) 3 (.t 3)) [2] [],
    ⟨none,.store (.d (.int .i64)) (.t 36) (.t 34),none,[],[2]⟩]) (BFb)) (.seq (.seq (.reg false [bc 38 .eql 8 7,
    mv 37 38]) (BFd)) (BFc))
def BE4:Cd:=.cond (.t 22) (.seq (.reg false [fa 25 Z2 2 1,
    ld 26 (.int .i64) 25,
    fa 27 Z2 2 3,
    sr (.int .i64) 27 26]) (BE7)) (.seq (.seq (.seq (.reg false [bc 29 .eql 8 5,
    mv 28 29]) (BFa)) (BE9)) (BE8))
def BE3:Cd:=.seq (.seq (.seq (.reg false [bc 23 .eql 8 3,
    mv 22 23]) (BE6)) (BE5)) (BE4)
def BEz:Cd:=.cond (.t 14) (.seq (td [14]) (BE1)) (.seq (td [14]) (BE3))
def BEy:Cd:=.seq (.seq (.reg false [bc 15 .eql 8 2,
    mv 14 15]) (BE0)) (BEz)
def BQ4:Cd:=.cond (.t 9) (.seq (td [9]) (BQ6)) (.seq (td [9]) (BEy))
def BQ2:Cd:=.block 0 (.seq (.seq (.reg false [bc 10 .eql 8 1,
    mv 9 10]) (BQ5)) (BQ4))
def BEx:Cd:=td [62]
def BEw:Cd:=.ret
def BQ1:Cd:=.seq (.seq (.reg false [ld 62 Z2 3,
    sr Z2 2 62]) (BEx)) (BEw)
def BQz:Cd:=.seq (.seq (.seq (.reg false [fa 7 Z2 0 1,
    ld 8 (.int .i64) 7]) (BQ3)) (BQ2)) (BQ1)
def BQy:Cd:=.seq (.seq (.reg false [fa 4 Z2 0 1,
    ld 5 (.int .i64) 4,
    o_ 6 (.build Z2 [(0,(.t 5))] []),
    nb 3 2 Z2,
    sr Z2 3 6]) (BQ0)) (BQz)
def Qo.fn:Fn:=⟨1,[.cell 2 (.d Z2)],.seq (.reg false [bx 1 0 0,
    nb 2 1 Z2]) (BQy)⟩
def BUs:Cd:=td [3,4,5,6,7,8,9,10,11,12,13,14,15,16,17]
def BUr:Cd:=.ret
def BUq:Cd:=.seq (.seq (.reg false [fa 3 Z2 0 1,
    ld 4 (.int .i64) 3,
    fa 5 Z2 1 1,
    ld 6 (.int .i64) 5,
    fa 7 Z2 2 1,
    ld 8 (.int .i64) 7,
    fa 9 Z2 3 1,
    ld 10 (.int .i64) 9,
    fa 11 Z2 4 1,
    ld 12 (.int .i64) 11,
    fa 13 Z2 6 1,
    ld 14 (.int .i64) 13,
    fa 15 Z2 8 1,
    ld 16 (.int .i64) 15,
    o_ 17 (.build Uw [(0,(.t 4)),(1,(.t 6)),(2,(.t 8)),(3,(.t 10)),(4,(.t 12)),(5,(.t 14)),(6,(.t 16))] []),
    sr Uw 2 17]) (BUs)) (BUr)
def U1.fn:Fn:=⟨1,[.cell 2 (.d Uw)],.seq (.reg false [bx 1 0 0,
    nb 2 1 Uw]) (BUq)⟩
def BUw:Cd:=td [6,7,8,9]
def BUy:Cd:=.ret
def BUx:Cd:=.seq (.reg false [o_ 4 (.move (.c .bool false))]) (BUy)
def BUz:Cd:=.skip
def BUv:Cd:=.cond (.t 10) (.seq (td [10]) (BUx)) (.seq (td [10]) (BUz))
def BU1:Cd:=td [11]
def BIu:Cd:=.skip
def BI4:Cd:=.exit 0
def BIx:Cd:=td [15]
def BIz:Cd:=td [16,17,18,19,20,21,22,23]
def BI1:Cd:=.ret
def BI0:Cd:=.seq (.reg false [o_ 4 (.move (.c .bool false))]) (BI1)
def BI2:Cd:=.skip
def BIy:Cd:=.cond (.t 24) (.seq (td [24]) (BI0)) (.seq (td [24]) (BI2))
def BIw:Cd:=.seq (.seq (.reg true [mv 16 0,
    mv 17 5,
    ix 18 (.sl (.int .i64)) 16 17,
    ld 19 (.int .i64) 18,
    mv 20 1,
    mv 21 5,
    ix 22 (.sl (.int .i64)) 20 21,
    ld 23 (.int .i64) 22,
    bi 24 .neq 19 23]) (BIz)) (BIy)
def BI3:Cd:=td [25]
def BIv:Cd:=.seq (.reg false [bc 25 .add 13 1,
    mv 13 25]) (BI3)
def BIt:Cd:=.seq (.block 1 (.seq (.seq (.reg false [mv 15 13,
    mv 5 15]) (BIx)) (BIw))) (BIv)
def BIs:Cd:=.seq (.cond (.t 14) (.seq (td [14]) (BIu)) (.seq (td [14]) (BI4))) (BIt)
def BIr:Cd:=.tidy [5] [] [] (some 0)
def AMe:Cd:=.seq (.seq (.reg false [bi 14 .lss 13 12]) (BIs)) (BIr)
def BU0:Cd:=.block 0 (.loop (AMe))
def BI5:Cd:=.ret
def ATl:Cd:=.seq (.reg false [o_ 4 (.move (.c .bool true))]) (BI5)
def BUu:Cd:=.seq (.seq (.seq (.reg false [mv 11 0,
    le 12 11,
    ci 13 0]) (BU1)) (BU0)) (ATl)
def BUt:Cd:=.seq (.seq (.seq (.reg false [mv 6 0,
    le 7 6,
    mv 8 1,
    le 9 8,
    bi 10 .neq 7 9]) (BUw)) (BUv)) (BUu)
def Zr.fn:Fn:=⟨2,[.tmp 4],.seq (.reg false [o_ 4 (.move (.c .bool false))]) (BUt)⟩
def BQx:Cd:=td [5,6,7,8,9,10,11,12,13,14,15,16,17,18,19,20,21,22,23]
def BQw:Cd:=.ret
def BQv:Cd:=.seq (.seq (.reg true [od 5 (.load (.d Z2) (.t 2)) [0] [],
    o_ 6 (.call (.f 78) [(.t 5)] [.d Uw] [] false),
    od 7 (.load (.d Z2) (.t 3)) [1] [],
    o_ 8 (.call (.f 78) [(.t 7)] [.d Uw] [] false),
    o_ 9 (.eqs Uw false (.t 6) (.t 8)),
    mv 10 9,
    ogd 11 (.fieldAddr (.d Z2) 5 (.t 2)) 10 true [0],
    ogd 12 (.load (.d (.sl (.int .i64))) (.t 11)) 10 true [0],
    ogd 13 (.fieldAddr (.d Z2) 5 (.t 3)) 10 true [1],
    ogd 14 (.load (.d (.sl (.int .i64))) (.t 13)) 10 true [1],
    og 15 (.call (.f 79) [(.t 12),(.t 14)] [.d .bool] [] false) 10 true,
    o_ 16 (.pick (.t 10) (.t 15) (.c .bool false)),
    mv 17 16,
    ogd 18 (.fieldAddr (.d Z2) 7 (.t 2)) 17 true [0],
    ogd 19 (.load (.d (.sl (.int .i64))) (.t 18)) 17 true [0],
    ogd 20 (.fieldAddr (.d Z2) 7 (.t 3)) 17 true [1],
    ogd 21 (.load (.d (.sl (.int .i64))) (.t 20)) 17 true [1],
    og 22 (.call (.f 79) [(.t 19),(.t 21)] [.d .bool] [] false) 17 true,
    o_ 23 (.pick (.t 17) (.t 22) (.c .bool false)),
    mv 4 23]) (BQx)) (BQw)
def Hp.fn:Fn:=⟨2,[.tmp 4],.seq (.reg false [bx 2 0 0,
    bx 3 1 1,
    o_ 4 (.move (.c .bool false))]) (BQv)⟩
def BRa:Cd:=td [3,4,5]
def BQ9:Cd:=.ret
def BQ8:Cd:=.seq (.seq (.reg false [o_ 3 (.slicearr 4 .str (.g 1)),
    mv 4 0,
    o_ 5 (.call (.f 77) [(.t 3),(.t 4)] [.d .str] [] false),
    mv 2 5]) (BRa)) (BQ9)
def G3.fn:Fn:=⟨1,[.tmp 2],.seq (.reg false [o_ 2 (.move (.c .str (⟨#[]⟩:ByteArray)))]) (BQ8)⟩
def BRd:Cd:=td [3,4,5,6,7,8]
def BRc:Cd:=.ret
def BRb:Cd:=.seq (.seq (.reg false [mv 3 0,
    bc 4 .geq 3 0,
    mv 5 4,
    og 6 (.move (.t 0)) 5 true,
    og 7 (.bin .leq (.t 6) (.c (.int .i64) (1073741824:Int))) 5 true,
    o_ 8 (.pick (.t 5) (.t 7) (.c .bool false)),
    mv 2 8]) (BRd)) (BRc)
def Kx.fn:Fn:=⟨1,[.tmp 2],.seq (.reg false [o_ 2 (.move (.c .bool false))]) (BRb)⟩
def BU7:Cd:=td [3,4,5]
def BU6:Cd:=.ret
def BU5:Cd:=.seq (.seq (.reg false [mv 3 0,
    o_ 4 (.call (.f 48) [(.t 3)] [.d .bool] [] false),
    nt 5 4,
    mv 2 5]) (BU7)) (BU6)
def Ko.fn:Fn:=⟨1,[.tmp 2],.seq (.reg false [o_ 2 (.move (.c .bool false))]) (BU5)⟩
def AYm:Cd:=td [6]
def AYq:Cd:=.skip
def AQ3:Cd:=.exit 0
def AQv:Cd:=td [10]
def AQx:Cd:=td [11,12,13,14,15]
def AQ0:Cd:=td [17]
def AQz:Cd:=.ret
def AQy:Cd:=.seq (.seq (.reg false [mv 17 5,
    mv 4 17]) (AQ0)) (AQz)
def AQ1:Cd:=.skip
def AQw:Cd:=.cond (.t 16) (.seq (td [16]) (AQy)) (.seq (td [16]) (AQ1))
def AQu:Cd:=.seq (.seq (.reg false [mv 11 1,
    mv 12 0,
    mv 13 5,
    ix 14 (.sl (.int .i64)) 12 13,
    ld 15 (.int .i64) 14,
    o_ 16 (.call (.t 11) [(.t 15)] [.d .bool] [] false)]) (AQx)) (AQw)
def AQ2:Cd:=td [18]
def AYr:Cd:=.seq (.reg false [bc 18 .add 8 1,
    mv 8 18]) (AQ2)
def AYp:Cd:=.seq (.block 1 (.seq (.seq (.reg false [mv 10 8,
    mv 5 10]) (AQv)) (AQu))) (AYr)
def AYo:Cd:=.seq (.cond (.t 9) (.seq (td [9]) (AYq)) (.seq (td [9]) (AQ3))) (AYp)
def AYn:Cd:=.tidy [5] [] [] (some 0)
def ACp:Cd:=.seq (.seq (.reg false [bi 9 .lss 8 7]) (AYo)) (AYn)
def AYl:Cd:=.block 0 (.loop (ACp))
def AQ4:Cd:=.ret
def ACo:Cd:=.seq (.reg false [o_ 4 (.move (.c (.int .i64) ((-1):Int)))]) (AQ4)
def AYk:Cd:=.seq (.seq (.seq (.reg false [mv 6 0,
    le 7 6,
    ci 8 0]) (AYm)) (AYl)) (ACo)
def Zj.fn:Fn:=⟨2,[.tmp 4],.seq (.reg false [ci 4 0]) (AYk)⟩
def BU4:Cd:=td [5,6,7,8]
def BU3:Cd:=.ret
def BU2:Cd:=.seq (.seq (.reg false [mv 5 0,
    mv 6 1,
    o_ 7 (.call (.f 135) [(.t 5),(.t 6)] [.d (.int .i64)] [] false),
    bc 8 .geq 7 0,
    mv 4 8]) (BU4)) (BU3)
def Xe.fn:Fn:=⟨2,[.tmp 4],.seq (.reg false [o_ 4 (.move (.c .bool false))]) (BU2)⟩
def BRg:Cd:=td [3,4,5,6,7,8,9,10]
def BRf:Cd:=.ret
def BRe:Cd:=.seq (.seq (.reg false [mv 3 0,
    le 4 3,
    bc 5 .leq 4 16,
    mv 6 5,
    og 7 (.move (.t 0)) 6 true,
    og 8 (.call (.f 80) [(.t 7),(.f 81)] [.d .bool] [] false) 6 true,
    og 9 (.not (.t 8)) 6 true,
    o_ 10 (.pick (.t 6) (.t 9) (.c .bool false)),
    mv 2 10]) (BRg)) (BRf)
def Gh.fn:Fn:=⟨1,[.tmp 2],.seq (.reg false [o_ 2 (.move (.c .bool false))]) (BRe)⟩
def BOi:Cd:=td [3,4,5,6,7,8,9,10,11,12,13,14,15,16,17,18,19,20,21,22,23,24,25,26,27,28,29,30,31,32,33,34,35,36,37,38,39,40,41,42,43,44,45,46,47,48,49,50,51,52,53]
def BOh:Cd:=.ret
def BOg:Cd:=.seq (.seq (.reg true [od 3 (.fieldAddr (.d Z2) 0 (.t 1)) [0] [],
    od 4 (.load (.d (.int .i64)) (.t 3)) [0] [],
    o_ 5 (.call (.f 44) [(.t 4)] [.d .str] [] false),
    o_ 6 (.eqs .str true (.t 5) (.c .str (⟨#[]⟩:ByteArray))),
    mv 7 6,
    ogd 8 (.load (.d Z2) (.t 1)) 7 true [0],
    ogd 9 (.load (.d Z2) (.t 1)) 7 true [0],
    og 10 (.call (.f 46) [(.t 9)] [.d Z2] [] false) 7 true,
    og 11 (.call (.f 45) [(.t 8),(.t 10)] [.d .bool] [] false) 7 true,
    o_ 12 (.pick (.t 7) (.t 11) (.c .bool false)),
    mv 13 12,
    ogd 14 (.fieldAddr (.d Z2) 1 (.t 1)) 13 true [0],
    ogd 15 (.load (.d (.int .i64)) (.t 14)) 13 true [0],
    og 16 (.call (.f 47) [(.t 15)] [.d .str] [] false) 13 true,
    og 17 (.eqs .str true (.t 16) (.c .str (⟨#[]⟩:ByteArray))) 13 true,
    o_ 18 (.pick (.t 13) (.t 17) (.c .bool false)),
    mv 19 18,
    ogd 20 (.fieldAddr (.d Z2) 2 (.t 1)) 19 true [0],
    ogd 21 (.load (.d (.int .i64)) (.t 20)) 19 true [0],
    og 22 (.call (.f 48) [(.t 21)] [.d .bool] [] false) 19 true,
    o_ 23 (.pick (.t 19) (.t 22) (.c .bool false)),
    mv 24 23,
    ogd 25 (.fieldAddr (.d Z2) 3 (.t 1)) 24 true [0],
    ogd 26 (.load (.d (.int .i64)) (.t 25)) 24 true [0],
    og 27 (.call (.f 48) [(.t 26)] [.d .bool] [] false) 24 true,
    o_ 28 (.pick (.t 24) (.t 27) (.c .bool false)),
    mv 29 28,
    ogd 30 (.fieldAddr (.d Z2) 4 (.t 1)) 29 true [0],
    ogd 31 (.load (.d (.int .i64)) (.t 30)) 29 true [0],
    og 32 (.call (.f 48) [(.t 31)] [.d .bool] [] false) 29 true,
    o_ 33 (.pick (.t 29) (.t 32) (.c .bool false)),
    mv 34 33,
    ogd 35 (.fieldAddr (.d Z2) 6 (.t 1)) 34 true [0],
    ogd 36 (.load (.d (.int .i64)) (.t 35)) 34 true [0],
    og 37 (.call (.f 48) [(.t 36)] [.d .bool] [] false) 34 true,
    o_ 38 (.pick (.t 34) (.t 37) (.c .bool false)),
    mv 39 38,
    ogd 40 (.fieldAddr (.d Z2) 8 (.t 1)) 39 true [0],
    ogd 41 (.load (.d (.int .i64)) (.t 40)) 39 true [0],
    og 42 (.call (.f 48) [(.t 41)] [.d .bool] [] false) 39 true,
    o_ 43 (.pick (.t 39) (.t 42) (.c .bool false)),
    mv 44 43,
    ogd 45 (.fieldAddr (.d Z2) 5 (.t 1)) 44 true [0],
    ogd 46 (.load (.d (.sl (.int .i64))) (.t 45)) 44 true [0],
    og 47 (.call (.f 49) [(.t 46)] [.d .bool] [] false) 44 true,
    o_ 48 (.pick (.t 44) (.t 47) (.c .bool false)),
    mv 49 48,
    ogd 50 (.fieldAddr (.d Z2) 7 (.t 1)) 49 true [0],
    ogd 51 (.load (.d (.sl (.int .i64))) (.t 50)) 49 true [0],
    og 52 (.call (.f 49) [(.t 51)] [.d .bool] [] false) 49 true,
    o_ 53 (.pick (.t 49) (.t 52) (.c .bool false)),
    mv 2 53]) (BOi)) (BOh)
def Hg.fn:Fn:=⟨1,[.tmp 2],.seq (.reg false [bx 1 0 0,
    o_ 2 (.move (.c .bool false))]) (BOg)⟩
def AXi:Cd:=td [8]
def AXm:Cd:=.skip
def AQr:Cd:=.exit 0
def AQk:Cd:=td [13,14,15]
def AQm:Cd:=td [16,17,18,19]
def AQo:Cd:=td [21,22,23,24,25,26]
def AQn:Cd:=.seq (.reg false [mv 21 5,
    mv 22 6,
    ld 23 Za 7,
    o_ 24 (.build V8 [(0,(.t 22)),(1,(.t 23))] []),
    o_ 25 (.slice 3 V8 [(.t 24)]),
    o_ 26 (.append 4 V8 (.t 21) (.t 25)),
    mv 5 26]) (AQo)
def AQq:Cd:=.skip
def AQl:Cd:=.cond (.t 20) (.seq (td [20]) (AQn)) (.seq (td [20]) (AQq))
def AQj:Cd:=.seq (.seq (.reg true [od 16 (.load (.d Zb) (.t 2)) [0] [],
    mv 17 6,
    o_ 18 (.call (.f 31) [(.t 16),(.t 17)] [.d Za] [] false),
    od 19 (.load (.d Za) (.t 3)) [1] [],
    o_ 20 (.eqs Za false (.t 18) (.t 19))]) (AQm)) (AQl)
def AQp:Cd:=td [27]
def AQi:Cd:=.seq (.reg false [bc 27 .add 11 1,
    mv 11 27]) (AQp)
def AXl:Cd:=.seq (.block 1 (.seq (.seq (.reg false [mv 13 11,
    ix 14 (.sl Za) 9 11,
    ld 15 Za 14,
    nb 7 2 Za,
    mv 6 13,
    sr Za 7 15]) (AQk)) (AQj))) (AQi)
def AXk:Cd:=.seq (.cond (.t 12) (.seq (td [12]) (AXm)) (.seq (td [12]) (AQr))) (AXl)
def AXj:Cd:=.tidy [6,7] [(4,5)] [2,3] (some 6)
def ALr:Cd:=.seq (.seq (.reg false [bi 12 .lss 11 10]) (AXk)) (AXj)
def AXh:Cd:=.block 0 (.loop (ALr))
def AQt:Cd:=td [28]
def AQs:Cd:=.ret
def ALq:Cd:=.seq (.seq (.reg false [mv 28 5,
    mv 4 28]) (AQt)) (AQs)
def AXg:Cd:=.seq (.seq (.seq (.reg false [fa 8 Zb 3 2,
    ld 9 (.sl Za) 8,
    le 10 9,
    ci 11 0]) (AXi)) (AXh)) (ALq)
def AXf:Cd:=.seq (.reg false [o_ 5 (.mknil 5 V8)]) (AXg)
def X0.fn:Fn:=⟨2,[.tmp 4],.seq (.reg false [bx 2 0 0,
    bx 3 1 1,
    o_ 4 (.move (.c (.sl V8) []))]) (AXf)⟩
def BT5:Cd:=td [5,6,7,8,9,10,11,12,13,14]
def BT4:Cd:=.ret
def BT3:Cd:=.seq (.seq (.reg true [od 5 (.fieldAddr (.d Zb) 2 (.t 2)) [0] [],
    od 6 (.load (.d (.sl (.int .i64))) (.t 5)) [0] [],
    mv 7 1,
    ix 8 (.sl (.int .i64)) 6 7,
    ld 9 (.int .i64) 8,
    od 10 (.load (.d Zb) (.t 2)) [0] [],
    mv 11 1,
    o_ 12 (.build Za [(0,(.c (.int .i64) (1:Int))),(1,(.t 11))] []),
    o_ 13 (.call (.f 121) [(.t 10),(.t 12)] [.d (.sl V8)] [] false),
    o_ 14 (.build Xm [(1,(.c (.int .i64) (10:Int))),(5,(.t 9)),(4,(.t 13))] []),
    ⟨none,.store (.d Xm) (.t 4) (.t 14),none,[],[1]⟩]) (BT5)) (BT4)
def Ks.fn:Fn:=⟨2,[.cell 4 (.d Xm)],.seq (.reg false [bx 2 0 0,
    nb 4 1 Xm]) (BT3)⟩
def AWa:Cd:=td [6]
def AWc:Cd:=td [9,10,11,12,13]
def AWb:Cd:=.ret
def AV9:Cd:=.seq (.seq (.reg true [od 9 (.load (.d Zb) (.t 4)) [0] [],
    o_ 10 (.load (.v false 1) (.t 3)),
    od 11 (.load (.d Zb) (.t 4)) [0] [],
    mv 12 1,
    o_ 13 (.call (.t 10) [(.t 11),(.t 12)] [.d Xm] [] false),
    ⟨none,.store (.d Zb) (.t 7) (.t 9),none,[],[2]⟩,
    ⟨none,.store (.d Xm) (.t 8) (.t 13),none,[],[3]⟩]) (AWc)) (AWb)
def Qe.fn:Fn:=⟨4,[.cell 7 (.d Zb),.cell 8 (.d Xm)],.seq (.seq (.reg false [bx 4 0 0,
    bx 6 1 2,
    nb 7 2 Zb,
    nb 8 3 Xm]) (AWa)) (AV9)⟩
def AXa:Cd:=td [7,8]
def AXe:Cd:=.skip
def AQf:Cd:=.exit 0
def AP8:Cd:=td [12]
def AQa:Cd:=td [13,14,15,16,17,18]
def AQc:Cd:=td [20,21,22,23]
def AQb:Cd:=.seq (.reg false [mv 20 5,
    mv 21 6,
    o_ 22 (.slice 1 (.int .i64) [(.t 21)]),
    o_ 23 (.append 2 (.int .i64) (.t 20) (.t 22)),
    mv 5 23]) (AQc)
def AQe:Cd:=.skip
def AP9:Cd:=.cond (.t 19) (.seq (td [19]) (AQb)) (.seq (td [19]) (AQe))
def AP7:Cd:=.seq (.seq (.reg false [fa 13 Zb 1 2,
    o_ 14 (.load (.d (.sl (.int .i64))) (.t 13)),
    mv 15 6,
    ix 16 (.sl (.int .i64)) 14 15,
    ld 17 (.int .i64) 16,
    mv 18 1,
    bi 19 .eql 17 18]) (AQa)) (AP9)
def AQd:Cd:=td [24]
def AP6:Cd:=.seq (.reg false [bc 24 .add 10 1,
    mv 10 24]) (AQd)
def AXd:Cd:=.seq (.block 1 (.seq (.seq (.reg false [mv 12 10,
    mv 6 12]) (AP8)) (AP7))) (AP6)
def AXc:Cd:=.seq (.cond (.t 11) (.seq (td [11]) (AXe)) (.seq (td [11]) (AQf))) (AXd)
def AXb:Cd:=.tidy [6] [(2,3)] [1] (some 4)
def ALp:Cd:=.seq (.seq (.reg false [bi 11 .lss 10 9]) (AXc)) (AXb)
def AW9:Cd:=.block 0 (.loop (ALp))
def AQh:Cd:=td [25]
def AQg:Cd:=.ret
def ALo:Cd:=.seq (.seq (.reg false [mv 25 5,
    mv 4 25]) (AQh)) (AQg)
def AW8:Cd:=.seq (.seq (.seq (.reg false [fa 7 Zb 1 2,
    o_ 8 (.load (.d (.sl (.int .i64))) (.t 7)),
    le 9 8,
    ci 10 0]) (AXa)) (AW9)) (ALo)
def AW7:Cd:=.seq (.reg false [o_ 5 (.mknil 3 (.int .i64))]) (AW8)
def Xg.fn:Fn:=⟨2,[.tmp 4],.seq (.reg false [bx 2 0 0,
    o_ 4 (.move (.c (.sl (.int .i64)) []))]) (AW7)⟩
def BT0:Cd:=td [6,7,8,9,10]
def BT2:Cd:=td [11,12,13,14,15,16,17,18,19]
def BT1:Cd:=.ret
def BTz:Cd:=.seq (.seq (.reg true [mv 11 5,
    od 12 (.load (.d Zb) (.t 2)) [0] [],
    mv 13 5,
    o_ 14 (.call (.f 120) [(.t 12),(.t 13)] [.d (.sl (.int .i64))] [] false),
    od 15 (.load (.d Zb) (.t 2)) [0] [],
    mv 16 5,
    o_ 17 (.build Za [(0,(.c (.int .i64) (0:Int))),(1,(.t 16))] []),
    o_ 18 (.call (.f 121) [(.t 15),(.t 17)] [.d (.sl V8)] [] false),
    o_ 19 (.build Xm [(1,(.c (.int .i64) (9:Int))),(2,(.t 11)),(3,(.t 14)),(4,(.t 18))] []),
    ⟨none,.store (.d Xm) (.t 4) (.t 19),none,[],[1]⟩]) (BT2)) (BT1)
def BTy:Cd:=.seq (.seq (.reg false [fa 6 Zb 1 2,
    o_ 7 (.load (.d (.sl (.int .i64))) (.t 6)),
    mv 8 1,
    ix 9 (.sl (.int .i64)) 7 8,
    ld 10 (.int .i64) 9,
    mv 5 10]) (BT0)) (BTz)
def V0.fn:Fn:=⟨2,[.cell 4 (.d Xm)],.seq (.reg false [bx 2 0 0,
    nb 4 1 Xm]) (BTy)⟩
def AU9:Cd:=td [5,6,7,8,9,10,11,12,13]
def AU8:Cd:=.ret
def AU7:Cd:=.seq (.seq (.reg false [mv 5 1,
    bc 6 .geq 5 0,
    mv 7 6,
    og 8 (.move (.t 1)) 7 true,
    og 9 (.fieldAddr (.d Zb) 1 (.t 2)) 7 true,
    og 10 (.load (.d (.sl (.int .i64))) (.t 9)) 7 true,
    og 11 (.len (.t 10)) 7 true,
    og 12 (.bin .lss (.t 8) (.t 11)) 7 true,
    o_ 13 (.pick (.t 7) (.t 12) (.c .bool false)),
    mv 4 13]) (AU9)) (AU8)
def Qg.fn:Fn:=⟨2,[.tmp 4],.seq (.reg false [bx 2 0 0,
    o_ 4 (.move (.c .bool false))]) (AU7)⟩
def AU6:Cd:=td [5,6,7,8,9,10,11,12,13]
def AU5:Cd:=.ret
def AU4:Cd:=.seq (.seq (.reg false [mv 5 1,
    bc 6 .geq 5 0,
    mv 7 6,
    og 8 (.move (.t 1)) 7 true,
    og 9 (.fieldAddr (.d Zb) 3 (.t 2)) 7 true,
    og 10 (.load (.d (.sl Za)) (.t 9)) 7 true,
    og 11 (.len (.t 10)) 7 true,
    og 12 (.bin .lss (.t 8) (.t 11)) 7 true,
    o_ 13 (.pick (.t 7) (.t 12) (.c .bool false)),
    mv 4 13]) (AU6)) (AU5)
def Ha.fn:Fn:=⟨2,[.tmp 4],.seq (.reg false [bx 2 0 0,
    o_ 4 (.move (.c .bool false))]) (AU4)⟩
def AVl:Cd:=td [4,5,6,7]
def AVk:Cd:=.ret
def AVj:Cd:=.seq (.seq (.reg false [ld 4 Zb 1,
    mv 5 0,
    o_ 6 (.call (.f 109) [(.t 4),(.t 5)] [.d .bool] [] false),
    nt 7 6,
    mv 3 7]) (AVl)) (AVk)
def Qf.fn:Fn:=⟨2,[.tmp 3],.seq (.reg false [o_ 3 (.move (.c .bool false))]) (AVj)⟩
def AVo:Cd:=td [6]
def AVt:Cd:=.skip
def APs:Cd:=.exit 0
def APj:Cd:=td [11,12]
def APm:Cd:=td [13,14]
def APo:Cd:=.ret
def APn:Cd:=.seq (.reg false [o_ 2 (.move (.c .bool true))]) (APo)
def APp:Cd:=.skip
def APl:Cd:=.cond (.t 15) (.seq (td [15]) (APn)) (.seq (td [15]) (APp))
def APq:Cd:=td [16,17]
def APk:Cd:=.seq (.reg false [mv 16 3,
    mv 17 5,
    on_ (.mapset (.int .i64) .bool (.t 16) (.t 17) (.c .bool true))]) (APq)
def APi:Cd:=.seq (.seq (.seq (.reg false [mv 13 3,
    mv 14 5,
    o_ 15 (.lookup (.int .i64) .bool (.t 13) (.t 14))]) (APm)) (APl)) (APk)
def APr:Cd:=td [18]
def APh:Cd:=.seq (.reg false [bc 18 .add 9 1,
    mv 9 18]) (APr)
def AVs:Cd:=.seq (.block 1 (.seq (.seq (.reg false [ix 11 (.sl (.int .i64)) 7 9,
    ld 12 (.int .i64) 11,
    mv 5 12]) (APj)) (APi))) (APh)
def AVr:Cd:=.seq (.cond (.t 10) (.seq (td [10]) (AVt)) (.seq (td [10]) (APs))) (AVs)
def AVq:Cd:=.tidy [5] [] [] (some 1)
def ALl:Cd:=.seq (.seq (.reg false [bi 10 .lss 9 8]) (AVr)) (AVq)
def AVp:Cd:=.block 0 (.loop (ALl))
def APt:Cd:=.ret
def ALk:Cd:=.seq (.reg false [o_ 2 (.move (.c .bool false))]) (APt)
def AVn:Cd:=.seq (.seq (.reg false [mv 7 0,
    le 8 7,
    ci 9 0]) (AVp)) (ALk)
def AVm:Cd:=.seq (.seq (.reg false [o_ 6 (.mkmap 0 (.int .i64) .bool),
    mv 3 6]) (AVo)) (AVn)
def Xu.fn:Fn:=⟨1,[.tmp 2],.seq (.reg false [o_ 2 (.move (.c .bool false))]) (AVm)⟩
def AVc:Cd:=td [3,4]
def AVb:Cd:=.ret
def AVa:Cd:=.seq (.seq (.reg false [mv 3 0,
    o_ 4 (.build Za [(0,(.c (.int .i64) (1:Int))),(1,(.t 3))] []),
    sr Za 2 4]) (AVc)) (AVb)
def Y0.fn:Fn:=⟨1,[.cell 2 (.d Za)],.seq (.reg false [nb 2 0 Za]) (AVa)⟩
def AVi:Cd:=td [5,6,7,8,9,10,11,12]
def AVh:Cd:=.ret
def AVg:Cd:=.seq (.seq (.reg true [fa 5 Zb 3 1,
    ld 6 (.sl Za) 5,
    mv 7 0,
    ix 8 (.sl Za) 6 7,
    ld 9 Za 8,
    ld 10 (.int .i64) 2,
    o_ 11 (.call (.f 111) [(.t 10)] [.d Za] [] false),
    o_ 12 (.eqs Za true (.t 9) (.t 11)),
    mv 4 12]) (AVi)) (AVh)
def Yt.fn:Fn:=⟨3,[.tmp 4],.seq (.reg false [o_ 4 (.move (.c .bool false))]) (AVg)⟩
def AVf:Cd:=td [6,7,8]
def AVe:Cd:=.ret
def AVd:Cd:=.seq (.seq (.reg false [mv 6 0,
    o_ 7 (.func 114 [(.t 2),(.t 4)]),
    o_ 8 (.call (.f 80) [(.t 6),(.t 7)] [.d .bool] [] false),
    mv 5 8]) (AVf)) (AVe)
def Y6.fn:Fn:=⟨3,[.tmp 5],.seq (.reg false [bx 4 0 1,
    o_ 5 (.move (.c .bool false))]) (AVd)⟩
def AY5:Cd:=td [8]
def AY9:Cd:=.skip
def ARt:Cd:=.exit 0
def ARm:Cd:=td [13,14,15]
def ARo:Cd:=td [16,17]
def ARq:Cd:=td [19,20,21,22]
def ARp:Cd:=.seq (.reg false [mv 19 5,
    mv 20 6,
    o_ 21 (.slice 3 (.int .i64) [(.t 20)]),
    o_ 22 (.append 4 (.int .i64) (.t 19) (.t 21)),
    mv 5 22]) (ARq)
def ARs:Cd:=.skip
def ARn:Cd:=.cond (.t 18) (.seq (td [18]) (ARp)) (.seq (td [18]) (ARs))
def ARl:Cd:=.seq (.seq (.reg false [ld 16 Za 3,
    ld 17 Za 7,
    o_ 18 (.eqs Za false (.t 16) (.t 17))]) (ARo)) (ARn)
def ARr:Cd:=td [23]
def ARk:Cd:=.seq (.reg false [bc 23 .add 11 1,
    mv 11 23]) (ARr)
def AY8:Cd:=.seq (.block 1 (.seq (.seq (.reg false [mv 13 11,
    ix 14 (.sl Za) 9 11,
    ld 15 Za 14,
    nb 7 2 Za,
    mv 6 13,
    sr Za 7 15]) (ARm)) (ARl))) (ARk)
def AY7:Cd:=.seq (.cond (.t 12) (.seq (td [12]) (AY9)) (.seq (td [12]) (ARt))) (AY8)
def AY6:Cd:=.tidy [6,7] [(4,5)] [2,3] (some 6)
def ALv:Cd:=.seq (.seq (.reg false [bi 12 .lss 11 10]) (AY7)) (AY6)
def AY4:Cd:=.block 0 (.loop (ALv))
def ARv:Cd:=td [24]
def ARu:Cd:=.ret
def ALu:Cd:=.seq (.seq (.reg false [mv 24 5,
    mv 4 24]) (ARv)) (ARu)
def AY3:Cd:=.seq (.seq (.seq (.reg false [fa 8 Zb 3 2,
    ld 9 (.sl Za) 8,
    le 10 9,
    ci 11 0]) (AY5)) (AY4)) (ALu)
def AY2:Cd:=.seq (.reg false [o_ 5 (.mknil 5 (.int .i64))]) (AY3)
def Y5.fn:Fn:=⟨2,[.tmp 4],.seq (.reg false [bx 2 0 0,
    bx 3 1 1,
    o_ 4 (.move (.c (.sl (.int .i64)) []))]) (AY2)⟩
def AUf:Cd:=td [6,7,8,9,10,11,12,13,14,15]
def AUh:Cd:=td [16,17,18,19,20,21,22,23,24]
def AUg:Cd:=.ret
def AUe:Cd:=.seq (.seq (.reg true [od 16 (.fieldAddr (.d Za) 0 (.t 3)) [1] [],
    od 17 (.load (.d (.int .i64)) (.t 16)) [1] [],
    od 18 (.index (.arr 3 (.int .i64)) (.t 5) (.t 17)) [2] [],
    od 19 (.load (.d (.int .i64)) (.t 18)) [2] [],
    od 20 (.load (.d Zb) (.t 2)) [0] [],
    od 21 (.load (.d Za) (.t 3)) [1] [],
    o_ 22 (.call (.f 137) [(.t 20),(.t 21)] [.d (.sl (.int .i64))] [] false),
    le 23 22,
    bi 24 .sub 19 23,
    mv 4 24]) (AUh)) (AUg)
def AUd:Cd:=.seq (.seq (.reg false [fa 6 Zb 0 2,
    fa 7 Xa 5 6,
    ld 8 (.int .i64) 7,
    fa 9 Zb 0 2,
    fa 10 Xa 6 9,
    ld 11 (.int .i64) 10,
    fa 12 Zb 0 2,
    fa 13 Xa 7 12,
    ld 14 (.int .i64) 13,
    o_ 15 (.build (.arr 3 (.int .i64)) [(0,(.t 8)),(1,(.t 11)),(2,(.t 14))] []),
    o_ 5 (.newbox 2 (.arr 3 (.int .i64)) []),
    on_ (.store (.d (.arr 3 (.int .i64))) (.t 5) (.t 15))]) (AUf)) (AUe)
def Je.fn:Fn:=⟨2,[.tmp 4],.seq (.reg false [bx 2 0 0,
    bx 3 1 1,
    ci 4 0]) (AUd)⟩
def AZc:Cd:=td [3,4,5,6,7,8]
def AZb:Cd:=.ret
def AZa:Cd:=.seq (.seq (.reg false [mv 3 0,
    bc 4 .geq 3 0,
    mv 5 4,
    og 6 (.move (.t 0)) 5 true,
    og 7 (.bin .leq (.t 6) (.c (.int .i64) (1073741824:Int))) 5 true,
    o_ 8 (.pick (.t 5) (.t 7) (.c .bool false)),
    mv 2 8]) (AZc)) (AZb)
def Gi.fn:Fn:=⟨1,[.tmp 2],.seq (.reg false [o_ 2 (.move (.c .bool false))]) (AZa)⟩
def AVx:Cd:=td [12,13,14,15,16,17]
def AV0:Cd:=td [18,19]
def AVz:Cd:=.ret
def AVy:Cd:=.seq (.seq (.reg false [mv 18 0,
    mv 19 1,
    mv 8 18,
    mv 9 19,
    ci 10 1]) (AV0)) (AVz)
def AV3:Cd:=td [21,22,23,24,25,26,27,28]
def APw:Cd:=td [29,30]
def APv:Cd:=.ret
def APu:Cd:=.seq (.seq (.reg false [mv 29 0,
    mv 30 1,
    mv 8 29,
    mv 9 30,
    ci 10 10]) (APw)) (APv)
def APz:Cd:=td [32,33,34,35,36,37,38,39,40,41,42,43,44,45,46,47]
def AP2:Cd:=td [48,49]
def AP1:Cd:=.ret
def AP0:Cd:=.seq (.seq (.reg false [mv 48 0,
    mv 49 1,
    mv 8 48,
    mv 9 49,
    ci 10 11]) (AP2)) (AP1)
def AP3:Cd:=.skip
def APy:Cd:=.cond (.t 31) (.seq (td [31]) (AP0)) (.seq (td [31]) (AP3))
def APx:Cd:=.seq (.seq (.reg false [mv 32 0,
    mv 33 2,
    bi 34 .sub 32 33,
    mv 35 3,
    bi 36 .add 34 35,
    o_ 37 (.call (.f 139) [(.t 36)] [.d .bool] [] false),
    nt 38 37,
    mv 39 38,
    og 40 (.move (.t 1)) 39 false,
    og 41 (.move (.t 3)) 39 false,
    og 42 (.bin .sub (.t 40) (.t 41)) 39 false,
    og 43 (.move (.t 2)) 39 false,
    og 44 (.bin .add (.t 42) (.t 43)) 39 false,
    og 45 (.call (.f 139) [(.t 44)] [.d .bool] [] false) 39 false,
    og 46 (.not (.t 45)) 39 false,
    o_ 47 (.pick (.t 39) (.c .bool true) (.t 46)),
    mv 31 47]) (APz)) (APy)
def AV2:Cd:=.cond (.t 20) (.seq (td [20]) (APu)) (.seq (td [20]) (APx))
def AV1:Cd:=.seq (.seq (.reg false [mv 21 2,
    mv 22 0,
    bi 23 .gtr 21 22,
    mv 24 23,
    og 25 (.move (.t 3)) 24 false,
    og 26 (.move (.t 1)) 24 false,
    og 27 (.bin .gtr (.t 25) (.t 26)) 24 false,
    o_ 28 (.pick (.t 24) (.c .bool true) (.t 27)),
    mv 20 28]) (AV3)) (AV2)
def AVw:Cd:=.cond (.t 11) (.seq (td [11]) (AVy)) (.seq (td [11]) (AV1))
def AP5:Cd:=td [50,51,52,53,54,55,56,57,58,59]
def AP4:Cd:=.ret
def AVv:Cd:=.seq (.seq (.reg false [mv 50 0,
    mv 51 2,
    bi 52 .sub 50 51,
    mv 53 3,
    bi 54 .add 52 53,
    mv 55 1,
    mv 56 3,
    bi 57 .sub 55 56,
    mv 58 2,
    bi 59 .add 57 58,
    mv 8 54,
    mv 9 59,
    ci 10 0]) (AP5)) (AP4)
def AVu:Cd:=.seq (.block 0 (.seq (.seq (.reg false [mv 12 2,
    bc 13 .lss 12 0,
    mv 14 13,
    og 15 (.move (.t 3)) 14 false,
    og 16 (.bin .lss (.t 15) (.c (.int .i64) (0:Int))) 14 false,
    o_ 17 (.pick (.t 14) (.c .bool true) (.t 16)),
    mv 11 17]) (AVx)) (AVw))) (AVv)
def Kp.fn:Fn:=⟨4,[.tmp 8,.tmp 9,.tmp 10],.seq (.reg false [ci 8 0,
    ci 9 0,
    ci 10 0]) (AVu)⟩
def AV6:Cd:=td [3,4,5,6,7,8,9,10,11,12,13,14]
def AV8:Cd:=td [15]
def AV7:Cd:=.ret
def AV5:Cd:=.seq (.seq (.reg false [ld 15 Zb 1,
    sr Zb 2 15]) (AV8)) (AV7)
def AV4:Cd:=.seq (.seq (.reg true [od 3 (.fieldAddr (.d Zb) 1 (.t 1)) [0] [],
    od 4 (.load (.d (.sl (.int .i64))) (.t 3)) [0] [],
    od 5 (.call (.f 140) [(.t 4)] [.d (.sl (.int .i64))] [((0,[]),2)] false) [] [2],
    od 6 (.fieldAddr (.d Zb) 2 (.t 1)) [0] [],
    od 7 (.load (.d (.sl (.int .i64))) (.t 6)) [0] [],
    od 8 (.call (.f 140) [(.t 7)] [.d (.sl (.int .i64))] [((0,[]),3)] false) [] [3],
    od 9 (.fieldAddr (.d Zb) 3 (.t 1)) [0] [],
    od 10 (.load (.d (.sl Za)) (.t 9)) [0] [],
    od 11 (.call (.f 141) [(.t 10)] [.d (.sl Za)] [((0,[]),4)] false) [] [4],
    od 12 (.fieldAddr (.d Zb) 1 (.t 1)) [0] [],
    ⟨none,.store (.d (.sl (.int .i64))) (.t 12) (.t 5),none,[],[0]⟩,
    od 13 (.fieldAddr (.d Zb) 2 (.t 1)) [0] [],
    ⟨none,.store (.d (.sl (.int .i64))) (.t 13) (.t 8),none,[],[0]⟩,
    od 14 (.fieldAddr (.d Zb) 3 (.t 1)) [0] [],
    ⟨none,.store (.d (.sl Za)) (.t 14) (.t 11),none,[],[0]⟩]) (AV6)) (AV5)
def Jp.fn:Fn:=⟨1,[.cell 2 (.d Zb)],.seq (.reg false [bx 1 0 0,
    nb 2 1 Zb]) (AV4)⟩
def BTn:Cd:=td [20,21,22,23,24,25,26,27]
def BTp:Cd:=td [28]
def BTs:Cd:=td [30,31,32,33,34,35,36,37,38]
def BGe:Cd:=td [39]
def BTu:Cd:=.ret
def BTt:Cd:=.seq (.seq (.reg false [ld 39 Zb 3,
    sr Zb 6 39,
    ci 7 3]) (BGe)) (BTu)
def BGh:Cd:=td [41,42,43]
def BGk:Cd:=td [44]
def BGj:Cd:=.ret
def BGi:Cd:=.seq (.seq (.reg false [ld 44 Zb 3,
    sr Zb 6 44,
    ci 7 12]) (BGk)) (BGj)
def BGn:Cd:=td [46,47,48,49,50,51,52,53,54,55,56]
def BGq:Cd:=td [57]
def BGp:Cd:=.ret
def BGo:Cd:=.seq (.seq (.reg false [ld 57 Zb 3,
    sr Zb 6 57,
    ci 7 5]) (BGq)) (BGp)
def BGt:Cd:=td [59,60]
def BGw:Cd:=td [61]
def BGv:Cd:=.ret
def BGu:Cd:=.seq (.seq (.reg false [ld 61 Zb 3,
    sr Zb 6 61,
    ci 7 13]) (BGw)) (BGv)
def BGz:Cd:=td [63,64,65,66,67,68,69,70,71,72,73,74]
def BG2:Cd:=td [75]
def BG1:Cd:=.ret
def BG0:Cd:=.seq (.seq (.reg false [ld 75 Zb 3,
    sr Zb 6 75,
    ci 7 5]) (BG2)) (BG1)
def BG3:Cd:=.skip
def BGy:Cd:=.cond (.t 62) (.seq (td [62]) (BG0)) (.seq (td [62]) (BG3))
def BGx:Cd:=.seq (.seq (.reg false [mv 63 10,
    fa 64 Z2 5 5,
    o_ 65 (.load (.d (.sl (.int .i64))) (.t 64)),
    mv 66 1,
    o_ 67 (.call (.t 63) [(.t 65),(.t 66)] [.d .bool] [] false),
    mv 68 67,
    og 69 (.move (.t 10)) 68 false,
    og 70 (.fieldAddr (.d Z2) 7 (.t 5)) 68 false,
    og 71 (.load (.d (.sl (.int .i64))) (.t 70)) 68 false,
    og 72 (.move (.t 8)) 68 false,
    og 73 (.call (.t 69) [(.t 71),(.t 72)] [.d .bool] [] false) 68 false,
    o_ 74 (.pick (.t 68) (.c .bool true) (.t 73)),
    mv 62 74]) (BGz)) (BGy)
def BGs:Cd:=.cond (.t 58) (.seq (td [58]) (BGu)) (.seq (td [58]) (BGx))
def BGr:Cd:=.seq (.seq (.reg false [mv 59 9,
    o_ 60 (.call (.f 116) [(.t 59)] [.d .bool] [] false),
    mv 58 60]) (BGt)) (BGs)
def BGm:Cd:=.cond (.t 45) (.seq (td [45]) (BGo)) (.seq (td [45]) (BGr))
def BGl:Cd:=.seq (.seq (.reg true [od 46 (.fieldAddr (.d Zb) 1 (.t 3)) [0] [],
    od 47 (.load (.d (.sl (.int .i64))) (.t 46)) [0] [],
    mv 48 8,
    ix 49 (.sl (.int .i64)) 47 48,
    ld 50 (.int .i64) 49,
    od 51 (.fieldAddr (.d Zb) 1 (.t 3)) [0] [],
    od 52 (.load (.d (.sl (.int .i64))) (.t 51)) [0] [],
    mv 53 1,
    ix 54 (.sl (.int .i64)) 52 53,
    ld 55 (.int .i64) 54,
    bi 56 .neq 50 55,
    mv 45 56]) (BGn)) (BGm)
def BGg:Cd:=.cond (.t 40) (.seq (td [40]) (BGi)) (.seq (td [40]) (BGl))
def BGf:Cd:=.seq (.seq (.reg false [mv 41 8,
    mv 42 1,
    bi 43 .eql 41 42,
    mv 40 43]) (BGh)) (BGg)
def BTr:Cd:=.cond (.t 29) (.seq (td [29]) (BTt)) (.seq (td [29]) (BGf))
def BG5:Cd:=td [76,77,78,79,80,81,82]
def BG8:Cd:=td [83,84,85,86,87,88,89,90,91,92,93,94,95,96]
def BHb:Cd:=td [98]
def BHa:Cd:=.ret
def BG9:Cd:=.seq (.seq (.reg false [ld 98 Zb 3,
    sr Zb 6 98,
    ci 7 9]) (BHb)) (BHa)
def BHc:Cd:=.skip
def BG7:Cd:=.cond (.t 97) (.seq (td [97]) (BG9)) (.seq (td [97]) (BHc))
def BHe:Cd:=td [99,100,101,102,103,104,105,106,107,108,109,110,111,112,113,114,115,116,117]
def BHh:Cd:=td [118]
def BHk:Cd:=td [120,121]
def BHj:Cd:=.ret
def BHi:Cd:=.seq (.seq (.reg false [ld 120 Zb 3,
    mv 121 14,
    sr Zb 6 120,
    mv 7 121]) (BHk)) (BHj)
def BHl:Cd:=.skip
def BHg:Cd:=.cond (.t 119) (.seq (td [119]) (BHi)) (.seq (td [119]) (BHl))
def BHn:Cd:=td [122,123]
def BHp:Cd:=td [124,125,126,127,128,129,130,131,132,133]
def BHr:Cd:=td [134]
def BHv:Cd:=.skip
def BH1:Cd:=.exit 1
def BHy:Cd:=td [139,140]
def BHz:Cd:=td [141,142,143,144,145,146]
def BHx:Cd:=.seq (.reg true [od 141 (.fieldAddr (.d Zb) 3 (.t 15)) [4] [],
    od 142 (.load (.d (.sl Za)) (.t 141)) [4] [],
    mv 143 17,
    mv 144 8,
    o_ 145 (.call (.f 111) [(.t 144)] [.d Za] [] false),
    od 146 (.index (.sl Za) (.t 142) (.t 143)) [6] [],
    ⟨none,.store (.d Za) (.t 146) (.t 145),none,[],[6]⟩]) (BHz)
def BH0:Cd:=td [147]
def BHw:Cd:=.seq (.reg false [bc 147 .add 137 1,
    mv 137 147]) (BH0)
def BHu:Cd:=.seq (.block 2 (.seq (.seq (.reg false [ix 139 (.sl (.int .i64)) 135 137,
    ld 140 (.int .i64) 139,
    mv 17 140]) (BHy)) (BHx))) (BHw)
def BHt:Cd:=.seq (.cond (.t 138) (.seq (td [138]) (BHv)) (.seq (td [138]) (BH1))) (BHu)
def BHs:Cd:=.tidy [17] [] [] (some 7)
def AMb:Cd:=.seq (.seq (.reg false [bi 138 .lss 137 136]) (BHt)) (BHs)
def BHq:Cd:=.block 1 (.loop (AMb))
def BH3:Cd:=td [148]
def BH7:Cd:=.skip
def BId:Cd:=.exit 3
def BIa:Cd:=td [153,154]
def BIb:Cd:=td [155,156,157,158,159,160]
def BH9:Cd:=.seq (.reg true [od 155 (.fieldAddr (.d Zb) 3 (.t 15)) [4] [],
    od 156 (.load (.d (.sl Za)) (.t 155)) [4] [],
    mv 157 19,
    mv 158 1,
    o_ 159 (.call (.f 111) [(.t 158)] [.d Za] [] false),
    od 160 (.index (.sl Za) (.t 156) (.t 157)) [6] [],
    ⟨none,.store (.d Za) (.t 160) (.t 159),none,[],[6]⟩]) (BIb)
def BIc:Cd:=td [161]
def BH8:Cd:=.seq (.reg false [bc 161 .add 151 1,
    mv 151 161]) (BIc)
def BH6:Cd:=.seq (.block 4 (.seq (.seq (.reg false [ix 153 (.sl (.int .i64)) 149 151,
    ld 154 (.int .i64) 153,
    mv 19 154]) (BIa)) (BH9))) (BH8)
def BH5:Cd:=.seq (.cond (.t 152) (.seq (td [152]) (BH7)) (.seq (td [152]) (BId))) (BH6)
def BH4:Cd:=.tidy [19] [] [] (some 7)
def AMd:Cd:=.seq (.seq (.reg false [bi 152 .lss 151 150]) (BH5)) (BH4)
def BH2:Cd:=.block 3 (.loop (AMd))
def BIf:Cd:=td [162]
def BIe:Cd:=.ret
def AMc:Cd:=.seq (.seq (.reg false [ld 162 Zb 15,
    sr Zb 6 162,
    ci 7 0]) (BIf)) (BIe)
def AMa:Cd:=.seq (.seq (.seq (.reg false [fa 148 Z2 7 5,
    o_ 149 (.load (.d (.sl (.int .i64))) (.t 148)),
    le 150 149,
    ci 151 0]) (BH3)) (BH2)) (AMc)
def BHo:Cd:=.seq (.seq (.seq (.reg false [fa 134 Z2 5 5,
    o_ 135 (.load (.d (.sl (.int .i64))) (.t 134)),
    le 136 135,
    ci 137 0]) (BHr)) (BHq)) (AMa)
def BHm:Cd:=.seq (.seq (.reg true [od 124 (.fieldAddr (.d Zb) 2 (.t 15)) [4] [],
    od 125 (.load (.d (.sl (.int .i64))) (.t 124)) [4] [],
    mv 126 1,
    od 127 (.fieldAddr (.d Zb) 2 (.t 15)) [4] [],
    od 128 (.load (.d (.sl (.int .i64))) (.t 127)) [4] [],
    mv 129 8,
    mv 130 12,
    mv 131 13,
    od 132 (.index (.sl (.int .i64)) (.t 125) (.t 126)) [5] [],
    ⟨none,.store (.d (.int .i64)) (.t 132) (.t 130),none,[],[5]⟩,
    od 133 (.index (.sl (.int .i64)) (.t 128) (.t 129)) [5] [],
    ⟨none,.store (.d (.int .i64)) (.t 133) (.t 131),none,[],[5]⟩]) (BHp)) (BHo)
def BHf:Cd:=.seq (.seq (.reg false [ld 122 Zb 3,
    o_ 123 (.call (.f 118) [(.t 122)] [.d Zb] [((0,[2]),5),((0,[3]),6)] false),
    nb 15 4 Zb,
    sr Zb 15 123]) (BHn)) (BHm)
def BHd:Cd:=.seq (.seq (.seq (.reg false [mv 118 14,
    bc 119 .neq 118 0]) (BHh)) (BHg)) (BHf)
def BG6:Cd:=.seq (.seq (.reg true [od 100 (.fieldAddr (.d Zb) 2 (.t 3)) [0] [],
    od 101 (.load (.d (.sl (.int .i64))) (.t 100)) [0] [],
    mv 102 1,
    ix 103 (.sl (.int .i64)) 101 102,
    ld 104 (.int .i64) 103,
    od 105 (.fieldAddr (.d Zb) 2 (.t 3)) [0] [],
    od 106 (.load (.d (.sl (.int .i64))) (.t 105)) [0] [],
    mv 107 8,
    ix 108 (.sl (.int .i64)) 106 107,
    ld 109 (.int .i64) 108,
    od 110 (.fieldAddr (.d Z2) 6 (.t 5)) [1] [],
    od 111 (.load (.d (.int .i64)) (.t 110)) [1] [],
    od 112 (.fieldAddr (.d Z2) 8 (.t 5)) [1] [],
    od 113 (.load (.d (.int .i64)) (.t 112)) [1] [],
    o_ 114 (.call (.f 117) [(.t 104),(.t 109),(.t 111),(.t 113)] [.d (.int .i64),.d (.int .i64),.d (.int .i64)] [] false),
    mv 99 114,
    xt 115 99 0,
    xt 116 99 1,
    xt 117 99 2,
    mv 12 115,
    mv 13 116,
    mv 14 117]) (BHe)) (BHd)
def BG4:Cd:=.seq (.seq (.seq (.reg true [od 83 (.load (.d Zb) (.t 3)) [0] [],
    mv 84 1,
    o_ 85 (.call (.f 111) [(.t 84)] [.d Za] [] false),
    o_ 86 (.call (.f 102) [(.t 83),(.t 85)] [.d (.int .i64)] [] false),
    mv 87 11,
    bi 88 .lss 86 87,
    mv 89 88,
    ogd 90 (.load (.d Zb) (.t 3)) 89 false [0],
    og 91 (.move (.t 8)) 89 false,
    og 92 (.call (.f 111) [(.t 91)] [.d Za] [] false) 89 false,
    og 93 (.call (.f 102) [(.t 90),(.t 92)] [.d (.int .i64)] [] false) 89 false,
    og 94 (.move (.t 11)) 89 false,
    og 95 (.neg (.t 94)) 89 false,
    og 96 (.bin .lss (.t 93) (.t 95)) 89 false,
    o_ 97 (.pick (.t 89) (.c .bool true) (.t 96))]) (BG8)) (BG7)) (BG6)
def BTq:Cd:=.seq (.seq (.reg false [fa 76 Z2 7 5,
    o_ 77 (.load (.d (.sl (.int .i64))) (.t 76)),
    le 78 77,
    fa 79 Z2 5 5,
    o_ 80 (.load (.d (.sl (.int .i64))) (.t 79)),
    le 81 80,
    bi 82 .sub 78 81,
    mv 11 82]) (BG5)) (BG4)
def BTo:Cd:=.seq (.block 0 (.seq (.seq (.reg false [ld 30 Zb 3,
    mv 31 8,
    o_ 32 (.call (.f 110) [(.t 30),(.t 31)] [.d .bool] [] false),
    nt 33 32,
    mv 34 33,
    og 35 (.move (.t 9)) 34 false,
    og 36 (.func 115 [(.t 3)]) 34 false,
    og 37 (.call (.f 80) [(.t 35),(.t 36)] [.d .bool] [] false) 34 false,
    o_ 38 (.pick (.t 34) (.c .bool true) (.t 37)),
    mv 29 38]) (BTs)) (BTr))) (BTq)
def BTm:Cd:=.seq (.seq (.reg false [o_ 28 (.func 113 [(.t 3)]),
    mv 10 28]) (BTp)) (BTo)
def BTl:Cd:=.seq (.seq (.reg true [od 20 (.fieldAddr (.d Z2) 4 (.t 5)) [1] [],
    od 21 (.load (.d (.int .i64)) (.t 20)) [1] [],
    od 22 (.fieldAddr (.d Z2) 5 (.t 5)) [1] [],
    od 23 (.load (.d (.sl (.int .i64))) (.t 22)) [1] [],
    od 24 (.fieldAddr (.d Z2) 7 (.t 5)) [1] [],
    od 25 (.load (.d (.sl (.int .i64))) (.t 24)) [1] [],
    od 26 (.slice 3 (.sl (.int .i64)) [(.t 23),(.t 25)]) [] [3],
    od 27 (.call (.f 112) [(.t 26)] [.d (.sl (.int .i64))] [] false) [] [3],
    mv 8 21,
    mv 9 27]) (BTn)) (BTm)
def Z6.fn:Fn:=⟨3,[.cell 6 (.d Zb),.tmp 7],.seq (.reg false [bx 3 0 0,
    bx 5 1 2,
    nb 6 2 Zb,
    ci 7 0]) (BTl)⟩
def BVg:Cd:=td [7]
def BVj:Cd:=td [9,10]
def BVi:Cd:=.ret
def BVh:Cd:=.seq (.seq (.reg false [mv 9 2,
    o_ 10 (.build Xm [(0,(.t 9))] []),
    sr Xm 6 10]) (BVj)) (BVi)
def BVk:Cd:=.skip
def BVf:Cd:=.cond (.t 8) (.seq (td [8]) (BVh)) (.seq (td [8]) (BVk))
def BVm:Cd:=td [11,12,13]
def BVl:Cd:=.ret
def BVe:Cd:=.seq (.seq (.reg false [mv 11 0,
    mv 12 1,
    o_ 13 (.build Xm [(1,(.t 11)),(2,(.t 12))] []),
    sr Xm 6 13]) (BVm)) (BVl)
def BVd:Cd:=.seq (.seq (.seq (.reg false [mv 7 2,
    bc 8 .neq 7 0]) (BVg)) (BVf)) (BVe)
def Yp.fn:Fn:=⟨3,[.cell 6 (.d Xm)],.seq (.reg false [nb 6 0 Xm]) (BVd)⟩
def BV4:Cd:=td [11,12,13,14,15,16,17,18]
def BV6:Cd:=td [19,20,21,22,23]
def BV5:Cd:=.ret
def BV3:Cd:=.seq (.seq (.reg true [od 19 (.load (.d Zb) (.t 9)) [4] [],
    od 20 (.fieldAddr (.d Z2) 0 (.t 6)) [1] [],
    od 21 (.load (.d (.int .i64)) (.t 20)) [1] [],
    mv 22 10,
    o_ 23 (.call (.f 83) [(.t 21),(.c (.int .i64) (0:Int)),(.t 22)] [.d Xm] [] false),
    ⟨none,.store (.d Zb) (.t 7) (.t 19),none,[],[2]⟩,
    ⟨none,.store (.d Xm) (.t 8) (.t 23),none,[],[3]⟩]) (BV6)) (BV5)
def BV2:Cd:=.seq (.seq (.reg false [o_ 12 (.load (.v false 1) (.t 3)),
    ld 13 Zb 4,
    mv 14 1,
    ld 15 Z2 6,
    o_ 16 (.call (.t 12) [(.t 13),(.t 14),(.t 15)] [.d Zb,.d (.int .i64)] [] false),
    mv 11 16,
    xt 17 11 0,
    xt 18 11 1,
    nb 9 4 Zb,
    sr Zb 9 17,
    mv 10 18]) (BV4)) (BV3)
def Qz.fn:Fn:=⟨4,[.cell 7 (.d Zb),.cell 8 (.d Xm)],.seq (.reg false [bx 4 0 0,
    bx 6 1 2,
    nb 7 2 Zb,
    nb 8 3 Xm]) (BV2)⟩
def AUk:Cd:=td [8,9]
def AUm:Cd:=td [10,11,12,13,14]
def AUo:Cd:=td [15]
def AUn:Cd:=.ret
def AUl:Cd:=.seq (.seq (.reg false [ld 15 Zb 7,
    sr Zb 6 15]) (AUo)) (AUn)
def AUj:Cd:=.seq (.seq (.reg false [fa 10 Zb 3 7,
    ld 11 (.sl Za) 10,
    mv 12 1,
    ld 13 Za 5,
    ix 14 (.sl Za) 11 12,
    sr Za 14 13]) (AUm)) (AUl)
def AUi:Cd:=.seq (.seq (.reg false [ld 8 Zb 3,
    o_ 9 (.call (.f 118) [(.t 8)] [.d Zb] [((0,[3]),4)] false),
    nb 7 3 Zb,
    sr Zb 7 9]) (AUk)) (AUj)
def Hi.fn:Fn:=⟨3,[.cell 6 (.d Zb)],.seq (.reg false [bx 3 0 0,
    bx 5 1 2,
    nb 6 2 Zb]) (AUi)⟩
def BTe:Cd:=td [11,12,13,14,15,16,17,18,19,20]
def BTh:Cd:=td [21]
def BTg:Cd:=.ret
def BTf:Cd:=.seq (.seq (.reg false [ld 21 Zb 4,
    sr Zb 8 21,
    ci 9 3]) (BTh)) (BTg)
def BTk:Cd:=td [23,24,25]
def BFy:Cd:=td [26]
def BFx:Cd:=.ret
def BFw:Cd:=.seq (.seq (.reg false [ld 26 Zb 4,
    sr Zb 8 26,
    ci 9 12]) (BFy)) (BFx)
def BF1:Cd:=td [28,29,30,31,32,33,34,35,36,37,38,39,40,41,42,43,44,45,46,47,48]
def BF4:Cd:=td [49]
def BF3:Cd:=.ret
def BF2:Cd:=.seq (.seq (.reg false [ld 49 Zb 4,
    sr Zb 8 49,
    ci 9 5]) (BF4)) (BF3)
def BF7:Cd:=td [51,52,53,54,55]
def BGa:Cd:=td [56]
def BF9:Cd:=.ret
def BF8:Cd:=.seq (.seq (.reg false [ld 56 Zb 4,
    sr Zb 8 56,
    ci 9 9]) (BGa)) (BF9)
def BGb:Cd:=.skip
def BF6:Cd:=.cond (.t 50) (.seq (td [50]) (BF8)) (.seq (td [50]) (BGb))
def BF5:Cd:=.seq (.seq (.reg true [od 51 (.load (.d Zb) (.t 4)) [0] [],
    mv 52 3,
    o_ 53 (.call (.f 111) [(.t 52)] [.d Za] [] false),
    o_ 54 (.call (.f 102) [(.t 51),(.t 53)] [.d (.int .i64)] [] false),
    bc 55 .lss 54 1,
    mv 50 55]) (BF7)) (BF6)
def BF0:Cd:=.cond (.t 27) (.seq (td [27]) (BF2)) (.seq (td [27]) (BF5))
def BFz:Cd:=.seq (.seq (.reg true [od 28 (.fieldAddr (.d Zb) 1 (.t 4)) [0] [],
    od 29 (.load (.d (.sl (.int .i64))) (.t 28)) [0] [],
    mv 30 3,
    ix 31 (.sl (.int .i64)) 29 30,
    ld 32 (.int .i64) 31,
    od 33 (.fieldAddr (.d Zb) 1 (.t 4)) [0] [],
    od 34 (.load (.d (.sl (.int .i64))) (.t 33)) [0] [],
    mv 35 1,
    ix 36 (.sl (.int .i64)) 34 35,
    ld 37 (.int .i64) 36,
    bi 38 .neq 32 37,
    mv 39 38,
    ogd 40 (.fieldAddr (.d Zb) 3 (.t 4)) 39 false [0],
    ogd 41 (.load (.d (.sl Za)) (.t 40)) 39 false [0],
    og 42 (.move (.t 2)) 39 false,
    og 43 (.index (.sl Za) (.t 41) (.t 42)) 39 false,
    og 44 (.load (.d Za) (.t 43)) 39 false,
    og 45 (.move (.t 1)) 39 false,
    og 46 (.call (.f 111) [(.t 45)] [.d Za] [] false) 39 false,
    og 47 (.eqs Za true (.t 44) (.t 46)) 39 false,
    o_ 48 (.pick (.t 39) (.c .bool true) (.t 47)),
    mv 27 48]) (BF1)) (BF0)
def BTj:Cd:=.cond (.t 22) (.seq (td [22]) (BFw)) (.seq (td [22]) (BFz))
def BTi:Cd:=.seq (.seq (.reg false [mv 23 3,
    mv 24 1,
    bi 25 .eql 23 24,
    mv 22 25]) (BTk)) (BTj)
def BTd:Cd:=.cond (.t 10) (.seq (td [10]) (BTf)) (.seq (td [10]) (BTi))
def BGd:Cd:=td [57,58,59,60,61]
def BGc:Cd:=.ret
def BTc:Cd:=.seq (.seq (.reg true [od 57 (.load (.d Zb) (.t 4)) [0] [],
    mv 58 2,
    mv 59 3,
    o_ 60 (.call (.f 111) [(.t 59)] [.d Za] [] false),
    o_ 61 (.call (.f 103) [(.t 57),(.t 58),(.t 60)] [.d Zb] [] false),
    ⟨none,.store (.d Zb) (.t 8) (.t 61),none,[],[1]⟩,
    ci 9 0]) (BGd)) (BGc)
def BTb:Cd:=.seq (.block 0 (.seq (.seq (.reg false [ld 11 Zb 4,
    mv 12 2,
    o_ 13 (.call (.f 109) [(.t 11),(.t 12)] [.d .bool] [] false),
    nt 14 13,
    mv 15 14,
    og 16 (.load (.d Zb) (.t 4)) 15 false,
    og 17 (.move (.t 3)) 15 false,
    og 18 (.call (.f 110) [(.t 16),(.t 17)] [.d .bool] [] false) 15 false,
    og 19 (.not (.t 18)) 15 false,
    o_ 20 (.pick (.t 15) (.c .bool true) (.t 19)),
    mv 10 20]) (BTe)) (BTd))) (BTc)
def Vz.fn:Fn:=⟨4,[.cell 8 (.d Zb),.tmp 9],.seq (.reg false [bx 4 0 0,
    nb 8 1 Zb,
    ci 9 0]) (BTb)⟩
def BTa:Cd:=td [8,9,10,11,12,13,14,15,16]
def BS9:Cd:=.ret
def BS8:Cd:=.seq (.seq (.reg false [ld 8 Zb 3,
    mv 9 1,
    fa 10 Z2 2 5,
    ld 11 (.int .i64) 10,
    fa 12 Z2 4 5,
    ld 13 (.int .i64) 12,
    o_ 14 (.call (.f 65) [(.t 8),(.t 9),(.t 11),(.t 13)] [.d Zb,.d (.int .i64)] [] false),
    xt 15 14 0,
    xt 16 14 1,
    sr Zb 6 15,
    mv 7 16]) (BTa)) (BS9)
def Qx.fn:Fn:=⟨3,[.cell 6 (.d Zb),.tmp 7],.seq (.reg false [bx 3 0 0,
    bx 5 1 2,
    nb 6 2 Zb,
    ci 7 0]) (BS8)⟩
def BW0:Cd:=td [5,6,7,8,9,10,11,12,13]
def BWz:Cd:=.ret
def BWy:Cd:=.seq (.seq (.reg false [mv 5 1,
    bc 6 .lss 5 0,
    mv 7 6,
    og 8 (.move (.t 1)) 7 false,
    og 9 (.fieldAddr (.d Zb) 3 (.t 2)) 7 false,
    og 10 (.load (.d (.sl Za)) (.t 9)) 7 false,
    og 11 (.len (.t 10)) 7 false,
    og 12 (.bin .geq (.t 8) (.t 11)) 7 false,
    o_ 13 (.pick (.t 7) (.c .bool true) (.t 12)),
    mv 4 13]) (BW0)) (BWz)
def Q7.fn:Fn:=⟨2,[.tmp 4],.seq (.reg false [bx 2 0 0,
    o_ 4 (.move (.c .bool false))]) (BWy)⟩
def AUr:Cd:=td [4,5,6,7,8,9,10,11]
def AUq:Cd:=.ret
def AUp:Cd:=.seq (.seq (.reg false [ld 4 Zb 0,
    ld 5 (.int .i64) 1,
    o_ 6 (.call (.f 92) [(.t 4),(.t 5)] [.d .bool] [] false),
    mv 7 6,
    og 8 (.load (.d Zb) (.t 0)) 7 false,
    og 9 (.load (.d (.int .i64)) (.t 2)) 7 false,
    og 10 (.call (.f 92) [(.t 8),(.t 9)] [.d .bool] [] false) 7 false,
    o_ 11 (.pick (.t 7) (.c .bool true) (.t 10)),
    mv 3 11]) (AUr)) (AUq)
def Ys.fn:Fn:=⟨3,[.tmp 3],.seq (.reg false [o_ 3 (.move (.c .bool false))]) (AUp)⟩
def BW6:Cd:=td [8,9,10]
def BW8:Cd:=td [11,12,13,14,15,16,17,18,19,20,21,22,23,24]
def BW7:Cd:=.ret
def BW5:Cd:=.seq (.seq (.reg true [od 11 (.load (.d Za) (.t 7)) [1] [],
    od 12 (.fieldAddr (.d Zb) 1 (.t 3)) [0] [],
    od 13 (.load (.d (.sl (.int .i64))) (.t 12)) [0] [],
    mv 14 1,
    ix 15 (.sl (.int .i64)) 13 14,
    ld 16 (.int .i64) 15,
    o_ 17 (.build Za [(0,(.c (.int .i64) (0:Int))),(1,(.t 16))] []),
    o_ 18 (.eqs Za false (.t 11) (.t 17)),
    mv 19 18,
    ogd 20 (.load (.d Za) (.t 7)) 19 false [1],
    og 21 (.move (.t 1)) 19 false,
    og 22 (.build Za [(0,(.c (.int .i64) (1:Int))),(1,(.t 21))] []) 19 false,
    og 23 (.eqs Za false (.t 20) (.t 22)) 19 false,
    o_ 24 (.pick (.t 19) (.c .bool true) (.t 23)),
    mv 6 24]) (BW8)) (BW7)
def BW4:Cd:=.seq (.seq (.reg false [ld 8 Zb 3,
    mv 9 2,
    o_ 10 (.call (.f 31) [(.t 8),(.t 9)] [.d Za] [] false),
    nb 7 1 Za,
    sr Za 7 10]) (BW6)) (BW5)
def Va.fn:Fn:=⟨3,[.tmp 6],.seq (.reg false [bx 3 0 0,
    o_ 6 (.move (.c .bool false))]) (BW4)⟩
def AUu:Cd:=td [4,5,6,7,8]
def AUt:Cd:=.ret
def AUs:Cd:=.seq (.seq (.reg false [ld 4 Zb 0,
    ld 5 (.int .i64) 1,
    ld 6 (.int .i64) 2,
    o_ 7 (.call (.f 94) [(.t 4),(.t 5),(.t 6)] [.d .bool] [] false),
    nt 8 7,
    mv 3 8]) (AUu)) (AUt)
def Q0.fn:Fn:=⟨3,[.tmp 3],.seq (.reg false [o_ 3 (.move (.c .bool false))]) (AUs)⟩
def AUx:Cd:=td [3,4,5,6,7,8,9]
def AUw:Cd:=.ret
def AUv:Cd:=.seq (.seq (.reg false [fa 3 Zb 0 0,
    fa 4 Xa 4 3,
    ld 5 (.sl .bool) 4,
    ld 6 (.int .i64) 1,
    ix 7 (.sl .bool) 5 6,
    ld 8 .bool 7,
    nt 9 8,
    mv 2 9]) (AUx)) (AUw)
def Q2.fn:Fn:=⟨2,[.tmp 2],.seq (.reg false [o_ 2 (.move (.c .bool false))]) (AUv)⟩
def AU0:Cd:=td [4,5,6,7,8,9,10]
def AUz:Cd:=.ret
def AUy:Cd:=.seq (.seq (.reg true [fa 4 Zb 3 0,
    ld 5 (.sl Za) 4,
    ld 6 (.int .i64) 1,
    ix 7 (.sl Za) 5 6,
    ld 8 Za 7,
    ld 9 Za 2,
    o_ 10 (.eqs Za true (.t 8) (.t 9)),
    mv 3 10]) (AU0)) (AUz)
def Q3.fn:Fn:=⟨3,[.tmp 3],.seq (.reg false [o_ 3 (.move (.c .bool false))]) (AUy)⟩
def AU3:Cd:=td [3,4,5,6]
def AU2:Cd:=.ret
def AU1:Cd:=.seq (.seq (.reg false [ld 3 Zb 0,
    ld 4 Za 1,
    o_ 5 (.call (.f 102) [(.t 3),(.t 4)] [.d (.int .i64)] [] false),
    bc 6 .lss 5 1,
    mv 2 6]) (AU3)) (AU2)
def Q4.fn:Fn:=⟨2,[.tmp 2],.seq (.reg false [o_ 2 (.move (.c .bool false))]) (AU1)⟩
def BWs:Cd:=.skip
def BJy:Cd:=.exit 0
def BJq:Cd:=td [9,10]
def BJs:Cd:=td [11,12]
def BJv:Cd:=td [14,15]
def BJu:Cd:=.ret
def BJt:Cd:=.seq (.seq (.reg false [o_ 14 (.fieldAddr (.v [1,1]) 1 (.t 4)),
    ld 15 (.int .i64) 14,
    mv 2 15]) (BJv)) (BJu)
def BJw:Cd:=.skip
def BJr:Cd:=.cond (.t 13) (.seq (td [13]) (BJt)) (.seq (td [13]) (BJw))
def BWu:Cd:=.seq (.seq (.reg false [o_ 11 (.fieldAddr (.v [1,1]) 0 (.t 4)),
    o_ 12 (.load (.v false 1) (.t 11)),
    o_ 13 (.call (.t 12) [] [.d .bool] [] false)]) (BJs)) (BJr)
def BJx:Cd:=td [16]
def BWt:Cd:=.seq (.reg false [bc 16 .add 7 1,
    mv 7 16]) (BJx)
def BWr:Cd:=.seq (.block 1 (.seq (.seq (.reg false [o_ 9 (.index (.slv 2) (.t 5) (.t 7)),
    o_ 10 (.load (.v true 2) (.t 9)),
    o_ 4 (.newboxv 0 (.agv [.nilfn,.dat (.int .i64) 0 []])),
    on_ (.store (.v true 2) (.t 4) (.t 10))]) (BJq)) (BWu))) (BWt)
def BWq:Cd:=.seq (.cond (.t 8) (.seq (td [8]) (BWs)) (.seq (td [8]) (BJy))) (BWr)
def BWp:Cd:=.tidy [4] [] [] (some 0)
def BWo:Cd:=.seq (.seq (.reg false [bi 8 .lss 7 6]) (BWq)) (BWp)
def BWn:Cd:=.block 0 (.loop (BWo))
def BJz:Cd:=.ret
def BWm:Cd:=.seq (.reg false [ci 2 0]) (BJz)
def BWl:Cd:=.seq (.seq (.reg false [mv 5 0,
    le 6 5,
    ci 7 0]) (BWn)) (BWm)
def Qc.fn:Fn:=⟨1,[.tmp 2],.seq (.reg false [ci 2 0]) (BWl)⟩
def BS0:Cd:=td [13,14,15,16]
def BS2:Cd:=td [17,18,19,20,21,22,23,24,25,26,27,28]
def BS5:Cd:=td [29]
def BFs:Cd:=td [31,32]
def BS7:Cd:=.ret
def BS6:Cd:=.seq (.seq (.reg false [ld 31 Zb 4,
    mv 32 12,
    sr Zb 8 31,
    mv 9 32]) (BFs)) (BS7)
def BFt:Cd:=.skip
def BS4:Cd:=.cond (.t 30) (.seq (td [30]) (BS6)) (.seq (td [30]) (BFt))
def BFv:Cd:=td [33,34,35,36]
def BFu:Cd:=.ret
def BS3:Cd:=.seq (.seq (.reg false [ld 33 Zb 4,
    ld 34 (.int .i64) 6,
    ld 35 Za 10,
    o_ 36 (.call (.f 103) [(.t 33),(.t 34),(.t 35)] [.d Zb] [] false),
    sr Zb 8 36,
    ci 9 0]) (BFv)) (BFu)
def BS1:Cd:=.seq (.seq (.seq (.reg false [mv 29 12,
    bc 30 .neq 29 0]) (BS5)) (BS4)) (BS3)
def BSz:Cd:=.seq (.seq (.reg false [o_ 17 (.func 104 [(.t 4),(.t 6),(.t 7)]),
    o_ 18 (.buildv [1,1] [(.t 17),(.c (.int .i64) (3:Int))]),
    o_ 19 (.func 105 [(.t 4),(.t 5),(.t 7)]),
    o_ 20 (.buildv [1,1] [(.t 19),(.c (.int .i64) (5:Int))]),
    o_ 21 (.func 106 [(.t 4),(.t 7)]),
    o_ 22 (.buildv [1,1] [(.t 21),(.c (.int .i64) (6:Int))]),
    o_ 23 (.func 107 [(.t 4),(.t 6),(.t 11)]),
    o_ 24 (.buildv [1,1] [(.t 23),(.c (.int .i64) (5:Int))]),
    o_ 25 (.func 108 [(.t 4),(.t 10)]),
    o_ 26 (.buildv [1,1] [(.t 25),(.c (.int .i64) (9:Int))]),
    o_ 27 (.slicev 2 [(.t 18),(.t 20),(.t 22),(.t 24),(.t 26)]),
    o_ 28 (.call (.f 90) [(.t 27)] [.d (.int .i64)] [] false),
    mv 12 28]) (BS2)) (BS1)
def BSy:Cd:=.seq (.seq (.reg true [od 13 (.load (.d (.int .i64)) (.t 5)) [1] [],
    o_ 14 (.build Za [(0,(.c (.int .i64) (1:Int))),(1,(.t 13))] []),
    od 15 (.load (.d (.int .i64)) (.t 7)) [3] [],
    o_ 16 (.build Za [(0,(.c (.int .i64) (2:Int))),(1,(.t 15))] []),
    od 10 (.newbox 5 Za []) [] [5],
    od 11 (.newbox 6 Za []) [] [6],
    ⟨none,.store (.d Za) (.t 10) (.t 14),none,[],[5]⟩,
    ⟨none,.store (.d Za) (.t 11) (.t 16),none,[],[6]⟩]) (BS0)) (BSz)
def Vy.fn:Fn:=⟨4,[.cell 8 (.d Zb),.tmp 9],.seq (.reg false [bx 4 0 0,
    bx 5 1 1,
    bx 6 2 2,
    bx 7 3 3,
    nb 8 4 Zb,
    ci 9 0]) (BSy)⟩
def BSx:Cd:=td [8,9,10,11,12,13,14,15,16]
def BSw:Cd:=.ret
def BSv:Cd:=.seq (.seq (.reg false [ld 8 Zb 3,
    mv 9 1,
    fa 10 Z2 2 5,
    ld 11 (.int .i64) 10,
    fa 12 Z2 3 5,
    ld 13 (.int .i64) 12,
    o_ 14 (.call (.f 63) [(.t 8),(.t 9),(.t 11),(.t 13)] [.d Zb,.d (.int .i64)] [] false),
    xt 15 14 0,
    xt 16 14 1,
    sr Zb 6 15,
    mv 7 16]) (BSx)) (BSw)
def Qw.fn:Fn:=⟨3,[.cell 6 (.d Zb),.tmp 7],.seq (.reg false [bx 3 0 0,
    bx 5 1 2,
    nb 6 2 Zb,
    ci 7 0]) (BSv)⟩
def BWx:Cd:=td [4,5,6,7,8,9,10,11]
def BWw:Cd:=.ret
def BWv:Cd:=.seq (.seq (.reg false [ld 4 Zb 0,
    ld 5 (.int .i64) 1,
    o_ 6 (.call (.f 92) [(.t 4),(.t 5)] [.d .bool] [] false),
    mv 7 6,
    og 8 (.load (.d Zb) (.t 0)) 7 false,
    og 9 (.load (.d (.int .i64)) (.t 2)) 7 false,
    og 10 (.call (.f 92) [(.t 8),(.t 9)] [.d .bool] [] false) 7 false,
    o_ 11 (.pick (.t 7) (.c .bool true) (.t 10)),
    mv 3 11]) (BWx)) (BWw)
def Y8.fn:Fn:=⟨3,[.tmp 3],.seq (.reg false [o_ 3 (.move (.c .bool false))]) (BWv)⟩
def BW3:Cd:=td [6,7,8,9,10,11,12,13,14,15,16,17,18,19]
def BW2:Cd:=.ret
def BW1:Cd:=.seq (.seq (.reg true [fa 6 Zb 3 0,
    ld 7 (.sl Za) 6,
    ld 8 (.int .i64) 1,
    ix 9 (.sl Za) 7 8,
    ld 10 Za 9,
    ld 11 Za 2,
    o_ 12 (.eqs Za true (.t 10) (.t 11)),
    mv 13 12,
    og 14 (.load (.d Zb) (.t 0)) 13 false,
    og 15 (.load (.d (.int .i64)) (.t 3)) 13 false,
    og 16 (.load (.d (.int .i64)) (.t 4)) 13 false,
    og 17 (.call (.f 94) [(.t 14),(.t 15),(.t 16)] [.d .bool] [] false) 13 false,
    og 18 (.not (.t 17)) 13 false,
    o_ 19 (.pick (.t 13) (.c .bool true) (.t 18)),
    mv 5 19]) (BW3)) (BW2)
def Jr.fn:Fn:=⟨5,[.tmp 5],.seq (.reg false [o_ 5 (.move (.c .bool false))]) (BW1)⟩
def BXb:Cd:=td [3,4,5,6,7,8,9]
def BXa:Cd:=.ret
def BW9:Cd:=.seq (.seq (.reg false [fa 3 Zb 0 0,
    fa 4 Xa 4 3,
    ld 5 (.sl .bool) 4,
    ld 6 (.int .i64) 1,
    ix 7 (.sl .bool) 5 6,
    ld 8 .bool 7,
    nt 9 8,
    mv 2 9]) (BXb)) (BXa)
def Js.fn:Fn:=⟨2,[.tmp 2],.seq (.reg false [o_ 2 (.move (.c .bool false))]) (BW9)⟩
def BXe:Cd:=td [4,5,6,7]
def BXd:Cd:=.ret
def BXc:Cd:=.seq (.seq (.reg false [ld 4 Zb 0,
    ld 5 (.int .i64) 1,
    ld 6 (.int .i64) 2,
    o_ 7 (.call (.f 97) [(.t 4),(.t 5),(.t 6)] [.d .bool] [] false),
    mv 3 7]) (BXe)) (BXd)
def Jt.fn:Fn:=⟨3,[.tmp 3],.seq (.reg false [o_ 3 (.move (.c .bool false))]) (BXc)⟩
def BXk:Cd:=td [5,6,7,8,9,10]
def BXj:Cd:=.ret
def BXi:Cd:=.seq (.seq (.reg false [ld 5 Zb 2,
    mv 6 1,
    o_ 7 (.call (.f 72) [(.t 5),(.t 6)] [.clo 123 [.ref Zb,.ref (.int .i64)]] [] false),
    o_ 8 (.call (.f 71) [(.t 7)] [.d (.sl Za)] [] false),
    le 9 8,
    bc 10 .sub 9 1,
    mv 4 10]) (BXk)) (BXj)
def Jo.fn:Fn:=⟨2,[.tmp 4],.seq (.reg false [bx 2 0 0,
    ci 4 0]) (BXi)⟩
def AT5:Cd:=td [7,8]
def AT9:Cd:=.skip
def APe:Cd:=.exit 0
def AO7:Cd:=td [12]
def AO9:Cd:=td [13,14,15]
def APb:Cd:=td [17,18,19,20,21,22,23,24,25]
def APa:Cd:=.seq (.reg true [mv 17 5,
    od 18 (.load (.d Zb) (.t 2)) [0] [],
    mv 19 6,
    o_ 20 (.call (.f 99) [(.t 18),(.t 19)] [.d (.int .i64)] [] false),
    od 21 (.load (.d Zb) (.t 2)) [0] [],
    mv 22 1,
    o_ 23 (.call (.f 99) [(.t 21),(.t 22)] [.d (.int .i64)] [] false),
    bi 24 .sub 20 23,
    o_ 25 (.max [(.t 17),(.t 24)]),
    mv 5 25]) (APb)
def APd:Cd:=.skip
def AO8:Cd:=.cond (.t 16) (.seq (td [16]) (APa)) (.seq (td [16]) (APd))
def AO6:Cd:=.seq (.seq (.reg false [ld 13 Zb 2,
    mv 14 6,
    mv 15 1,
    o_ 16 (.call (.f 97) [(.t 13),(.t 14),(.t 15)] [.d .bool] [] false)]) (AO9)) (AO8)
def APc:Cd:=td [26]
def AO5:Cd:=.seq (.reg false [bc 26 .add 10 1,
    mv 10 26]) (APc)
def AT8:Cd:=.seq (.block 1 (.seq (.seq (.reg false [mv 12 10,
    mv 6 12]) (AO7)) (AO6))) (AO5)
def AT7:Cd:=.seq (.cond (.t 11) (.seq (td [11]) (AT9)) (.seq (td [11]) (APe))) (AT8)
def AT6:Cd:=.tidy [6] [] [] (some 1)
def ALj:Cd:=.seq (.seq (.reg false [bi 11 .lss 10 9]) (AT7)) (AT6)
def AT4:Cd:=.block 0 (.loop (ALj))
def APg:Cd:=td [27]
def APf:Cd:=.ret
def ALi:Cd:=.seq (.seq (.reg false [mv 27 5,
    mv 4 27]) (APg)) (APf)
def AT3:Cd:=.seq (.seq (.seq (.reg false [fa 7 Zb 3 2,
    ld 8 (.sl Za) 7,
    le 9 8,
    ci 10 0]) (AT5)) (AT4)) (ALi)
def AT2:Cd:=.seq (.reg false [ci 5 0]) (AT3)
def Xq.fn:Fn:=⟨2,[.tmp 4],.seq (.reg false [bx 2 0 0,
    ci 4 0]) (AT2)⟩
def BXh:Cd:=td [4,5,6,7,8,9,10,11,12]
def BXg:Cd:=.ret
def BXf:Cd:=.seq (.seq (.reg true [ld 4 Zb 0,
    ld 5 (.int .i64) 1,
    o_ 6 (.call (.f 99) [(.t 4),(.t 5)] [.d (.int .i64)] [] false),
    bc 7 .add 6 1,
    ld 8 Zb 0,
    ld 9 (.int .i64) 2,
    o_ 10 (.call (.f 100) [(.t 8),(.t 9)] [.d (.int .i64)] [] false),
    bi 11 .add 7 10,
    bc 12 .gtr 11 4,
    mv 3 12]) (BXh)) (BXg)
def Ju.fn:Fn:=⟨3,[.tmp 3],.seq (.reg false [o_ 3 (.move (.c .bool false))]) (BXf)⟩
def AUc:Cd:=td [3,4,5,6]
def AUb:Cd:=.ret
def AUa:Cd:=.seq (.seq (.reg false [ld 3 Zb 0,
    ld 4 Za 1,
    o_ 5 (.call (.f 102) [(.t 3),(.t 4)] [.d (.int .i64)] [] false),
    bc 6 .lss 5 1,
    mv 2 6]) (AUc)) (AUb)
def Jv.fn:Fn:=⟨2,[.tmp 2],.seq (.reg false [o_ 2 (.move (.c .bool false))]) (AUa)⟩
def BSn:Cd:=td [13,14,15,16]
def BSp:Cd:=td [17,18,19,20,21,22,23,24,25,26,27,28,29,30]
def BSs:Cd:=td [31]
def BFo:Cd:=td [33,34]
def BSu:Cd:=.ret
def BSt:Cd:=.seq (.seq (.reg false [ld 33 Zb 4,
    mv 34 12,
    sr Zb 8 33,
    mv 9 34]) (BFo)) (BSu)
def BFp:Cd:=.skip
def BSr:Cd:=.cond (.t 32) (.seq (td [32]) (BSt)) (.seq (td [32]) (BFp))
def BFr:Cd:=td [35,36,37,38]
def BFq:Cd:=.ret
def BSq:Cd:=.seq (.seq (.reg false [ld 35 Zb 4,
    ld 36 (.int .i64) 6,
    ld 37 Za 11,
    o_ 38 (.call (.f 103) [(.t 35),(.t 36),(.t 37)] [.d Zb] [] false),
    sr Zb 8 38,
    ci 9 0]) (BFr)) (BFq)
def BSo:Cd:=.seq (.seq (.seq (.reg false [mv 31 12,
    bc 32 .neq 31 0]) (BSs)) (BSr)) (BSq)
def BSm:Cd:=.seq (.seq (.reg false [o_ 17 (.func 91 [(.t 4),(.t 6),(.t 7)]),
    o_ 18 (.buildv [1,1] [(.t 17),(.c (.int .i64) (3:Int))]),
    o_ 19 (.func 93 [(.t 4),(.t 6),(.t 10),(.t 5),(.t 7)]),
    o_ 20 (.buildv [1,1] [(.t 19),(.c (.int .i64) (5:Int))]),
    o_ 21 (.func 95 [(.t 4),(.t 7)]),
    o_ 22 (.buildv [1,1] [(.t 21),(.c (.int .i64) (6:Int))]),
    o_ 23 (.func 96 [(.t 4),(.t 7),(.t 6)]),
    o_ 24 (.buildv [1,1] [(.t 23),(.c (.int .i64) (7:Int))]),
    o_ 25 (.func 98 [(.t 4),(.t 7),(.t 6)]),
    o_ 26 (.buildv [1,1] [(.t 25),(.c (.int .i64) (8:Int))]),
    o_ 27 (.func 101 [(.t 4),(.t 11)]),
    o_ 28 (.buildv [1,1] [(.t 27),(.c (.int .i64) (9:Int))]),
    o_ 29 (.slicev 2 [(.t 18),(.t 20),(.t 22),(.t 24),(.t 26),(.t 28)]),
    o_ 30 (.call (.f 90) [(.t 29)] [.d (.int .i64)] [] false),
    mv 12 30]) (BSp)) (BSo)
def BSl:Cd:=.seq (.seq (.reg true [od 13 (.load (.d (.int .i64)) (.t 5)) [1] [],
    o_ 14 (.build Za [(0,(.c (.int .i64) (1:Int))),(1,(.t 13))] []),
    od 15 (.load (.d (.int .i64)) (.t 7)) [3] [],
    o_ 16 (.build Za [(0,(.c (.int .i64) (2:Int))),(1,(.t 15))] []),
    od 10 (.newbox 5 Za []) [] [5],
    od 11 (.newbox 6 Za []) [] [6],
    ⟨none,.store (.d Za) (.t 10) (.t 14),none,[],[5]⟩,
    ⟨none,.store (.d Za) (.t 11) (.t 16),none,[],[6]⟩]) (BSn)) (BSm)
def Km.fn:Fn:=⟨4,[.cell 8 (.d Zb),.tmp 9],.seq (.reg false [bx 4 0 0,
    bx 5 1 1,
    bx 6 2 2,
    bx 7 3 3,
    nb 8 4 Zb,
    ci 9 0]) (BSl)⟩
def BSk:Cd:=td [8,9,10,11,12,13,14,15,16]
def BSj:Cd:=.ret
def BSi:Cd:=.seq (.seq (.reg false [ld 8 Zb 3,
    mv 9 1,
    fa 10 Z2 2 5,
    ld 11 (.int .i64) 10,
    fa 12 Z2 3 5,
    ld 13 (.int .i64) 12,
    o_ 14 (.call (.f 61) [(.t 8),(.t 9),(.t 11),(.t 13)] [.d Zb,.d (.int .i64)] [] false),
    xt 15 14 0,
    xt 16 14 1,
    sr Zb 6 15,
    mv 7 16]) (BSk)) (BSj)
def Qv.fn:Fn:=⟨3,[.cell 6 (.d Zb),.tmp 7],.seq (.reg false [bx 3 0 0,
    bx 5 1 2,
    nb 6 2 Zb,
    ci 7 0]) (BSi)⟩
def BV9:Cd:=td [6,7,8,9,10,11,12,13]
def BV8:Cd:=.ret
def BV7:Cd:=.seq (.seq (.reg false [fa 6 Zb 1 2,
    o_ 7 (.load (.d (.sl (.int .i64))) (.t 6)),
    mv 8 1,
    ix 9 (.sl (.int .i64)) 7 8,
    ld 10 (.int .i64) 9,
    o_ 11 (.build Za [(0,(.c (.int .i64) (0:Int))),(1,(.t 10))] []),
    mv 12 1,
    o_ 13 (.build Za [(0,(.c (.int .i64) (1:Int))),(1,(.t 12))] []),
    sr Za 4 11,
    sr Za 5 13]) (BV9)) (BV8)
def Jc.fn:Fn:=⟨2,[.cell 4 (.d Za),.cell 5 (.d Za)],.seq (.reg false [bx 2 0 0,
    nb 4 1 Za,
    nb 5 2 Za]) (BV7)⟩
def BWd:Cd:=td [11,12,13,14,15,16,17,18,19]
def BWg:Cd:=td [20]
def BWf:Cd:=.ret
def BWe:Cd:=.seq (.seq (.reg false [ld 20 Zb 4,
    sr Zb 8 20,
    ci 9 3]) (BWg)) (BWf)
def BWj:Cd:=td [22,23,24,25,26,27,28]
def BJg:Cd:=td [29]
def BJf:Cd:=.ret
def BJe:Cd:=.seq (.seq (.reg false [ld 29 Zb 4,
    sr Zb 8 29,
    ci 9 5]) (BJg)) (BJf)
def BJj:Cd:=td [31,32,33,34]
def BJm:Cd:=td [35]
def BJl:Cd:=.ret
def BJk:Cd:=.seq (.seq (.reg false [ld 35 Zb 4,
    sr Zb 8 35,
    ci 9 9]) (BJm)) (BJl)
def BJn:Cd:=.skip
def BJi:Cd:=.cond (.t 30) (.seq (td [30]) (BJk)) (.seq (td [30]) (BJn))
def BJh:Cd:=.seq (.seq (.reg false [ld 31 Zb 4,
    ld 32 Za 7,
    o_ 33 (.call (.f 102) [(.t 31),(.t 32)] [.d (.int .i64)] [] false),
    bc 34 .lss 33 1,
    mv 30 34]) (BJj)) (BJi)
def BWi:Cd:=.cond (.t 21) (.seq (td [21]) (BJe)) (.seq (td [21]) (BJh))
def BWh:Cd:=.seq (.seq (.reg true [od 22 (.fieldAddr (.d Zb) 3 (.t 4)) [0] [],
    od 23 (.load (.d (.sl Za)) (.t 22)) [0] [],
    mv 24 1,
    ix 25 (.sl Za) 23 24,
    ld 26 Za 25,
    od 27 (.load (.d Za) (.t 6)) [1] [],
    o_ 28 (.eqs Za true (.t 26) (.t 27)),
    mv 21 28]) (BWj)) (BWi)
def BWc:Cd:=.cond (.t 10) (.seq (td [10]) (BWe)) (.seq (td [10]) (BWh))
def BJp:Cd:=td [36,37,38,39]
def BJo:Cd:=.ret
def BWb:Cd:=.seq (.seq (.reg false [ld 36 Zb 4,
    mv 37 1,
    ld 38 Za 7,
    o_ 39 (.call (.f 103) [(.t 36),(.t 37),(.t 38)] [.d Zb] [] false),
    sr Zb 8 39,
    ci 9 0]) (BJp)) (BJo)
def BWa:Cd:=.seq (.block 0 (.seq (.seq (.reg false [mv 11 1,
    bc 12 .lss 11 0,
    mv 13 12,
    og 14 (.move (.t 1)) 13 false,
    og 15 (.fieldAddr (.d Zb) 3 (.t 4)) 13 false,
    og 16 (.load (.d (.sl Za)) (.t 15)) 13 false,
    og 17 (.len (.t 16)) 13 false,
    og 18 (.bin .geq (.t 14) (.t 17)) 13 false,
    o_ 19 (.pick (.t 13) (.c .bool true) (.t 18)),
    mv 10 19]) (BWd)) (BWc))) (BWb)
def Ka.fn:Fn:=⟨4,[.cell 8 (.d Zb),.tmp 9],.seq (.reg false [bx 4 0 0,
    bx 6 1 2,
    bx 7 2 3,
    nb 8 3 Zb,
    ci 9 0]) (BWa)⟩
def BSd:Cd:=td [10,11,12,13,14,15]
def BSf:Cd:=td [16,17,18,19,20,21,22]
def BSe:Cd:=.ret
def BSc:Cd:=.seq (.seq (.reg false [ld 16 Zb 3,
    mv 17 2,
    ld 18 Za 9,
    ld 19 Za 8,
    o_ 20 (.call (.f 89) [(.t 16),(.t 17),(.t 18),(.t 19)] [.d Zb,.d (.int .i64)] [] false),
    xt 21 20 0,
    xt 22 20 1,
    sr Zb 6 21,
    mv 7 22]) (BSf)) (BSe)
def BSb:Cd:=.seq (.seq (.reg false [ld 11 Zb 3,
    mv 12 1,
    o_ 13 (.call (.f 88) [(.t 11),(.t 12)] [.d Za,.d Za] [] false),
    mv 10 13,
    xt 14 10 0,
    xt 15 10 1,
    nb 8 2 Za,
    nb 9 3 Za,
    sr Za 8 14,
    sr Za 9 15]) (BSd)) (BSc)
def Kr.fn:Fn:=⟨3,[.cell 6 (.d Zb),.tmp 7],.seq (.reg false [bx 3 0 0,
    nb 6 1 Zb,
    ci 7 0]) (BSb)⟩
def BSa:Cd:=td [8,9,10,11,12,13,14]
def BR9:Cd:=.ret
def BR8:Cd:=.seq (.seq (.reg false [ld 8 Zb 3,
    mv 9 1,
    fa 10 Z2 2 5,
    ld 11 (.int .i64) 10,
    o_ 12 (.call (.f 59) [(.t 8),(.t 9),(.t 11)] [.d Zb,.d (.int .i64)] [] false),
    xt 13 12 0,
    xt 14 12 1,
    sr Zb 6 13,
    mv 7 14]) (BSa)) (BR9)
def Qu.fn:Fn:=⟨3,[.cell 6 (.d Zb),.tmp 7],.seq (.reg false [bx 3 0 0,
    bx 5 1 2,
    nb 6 2 Zb,
    ci 7 0]) (BR8)⟩
def BR5:Cd:=td [10,11,12,13,14,15]
def BR7:Cd:=td [16,17,18,19,20,21,22]
def BR6:Cd:=.ret
def BR4:Cd:=.seq (.seq (.reg false [ld 16 Zb 3,
    mv 17 2,
    ld 18 Za 8,
    ld 19 Za 9,
    o_ 20 (.call (.f 89) [(.t 16),(.t 17),(.t 18),(.t 19)] [.d Zb,.d (.int .i64)] [] false),
    xt 21 20 0,
    xt 22 20 1,
    sr Zb 6 21,
    mv 7 22]) (BR7)) (BR6)
def BR3:Cd:=.seq (.seq (.reg false [ld 11 Zb 3,
    mv 12 1,
    o_ 13 (.call (.f 88) [(.t 11),(.t 12)] [.d Za,.d Za] [] false),
    mv 10 13,
    xt 14 10 0,
    xt 15 10 1,
    nb 8 2 Za,
    nb 9 3 Za,
    sr Za 8 14,
    sr Za 9 15]) (BR5)) (BR4)
def Hq.fn:Fn:=⟨3,[.cell 6 (.d Zb),.tmp 7],.seq (.reg false [bx 3 0 0,
    nb 6 1 Zb,
    ci 7 0]) (BR3)⟩
def BR2:Cd:=td [8,9,10,11,12,13,14]
def BR1:Cd:=.ret
def BR0:Cd:=.seq (.seq (.reg false [ld 8 Zb 3,
    mv 9 1,
    fa 10 Z2 2 5,
    ld 11 (.int .i64) 10,
    o_ 12 (.call (.f 57) [(.t 8),(.t 9),(.t 11)] [.d Zb,.d (.int .i64)] [] false),
    xt 13 12 0,
    xt 14 12 1,
    sr Zb 6 13,
    mv 7 14]) (BR2)) (BR1)
def Qt.fn:Fn:=⟨3,[.cell 6 (.d Zb),.tmp 7],.seq (.reg false [bx 3 0 0,
    bx 5 1 2,
    nb 6 2 Zb,
    ci 7 0]) (BR0)⟩
def BVp:Cd:=td [7]
def BVo:Cd:=.ret
def BVn:Cd:=.seq (.seq (.reg false [o_ 7 (.func 136 [(.t 5),(.t 3),(.t 4)]),
    mv 6 7]) (BVp)) (BVo)
def Kf.fn:Fn:=⟨3,[.tmp 6],.seq (.reg false [bx 3 0 0,
    bx 4 1 1,
    bx 5 2 2,
    o_ 6 (.move .nf)]) (BVn)⟩
def BVv:Cd:=td [5,6,7,8,9,10,11,12,13]
def BVx:Cd:=.ret
def BVw:Cd:=.seq (.reg false [ci 3 3]) (BVx)
def BV0:Cd:=td [15,16,17]
def BI6:Cd:=.ret
def BV1:Cd:=.seq (.reg false [ci 3 12]) (BI6)
def BI9:Cd:=td [19,20,21,22,23,24,25,26,27,28,29]
def BJb:Cd:=.ret
def BJa:Cd:=.seq (.reg false [ci 3 5]) (BJb)
def BJc:Cd:=.skip
def BI8:Cd:=.cond (.t 18) (.seq (td [18]) (BJa)) (.seq (td [18]) (BJc))
def BI7:Cd:=.seq (.seq (.reg true [fa 19 Zb 1 1,
    o_ 20 (.load (.d (.sl (.int .i64))) (.t 19)),
    ld 21 (.int .i64) 0,
    ix 22 (.sl (.int .i64)) 20 21,
    ld 23 (.int .i64) 22,
    fa 24 Zb 1 1,
    o_ 25 (.load (.d (.sl (.int .i64))) (.t 24)),
    ld 26 (.int .i64) 2,
    ix 27 (.sl (.int .i64)) 25 26,
    ld 28 (.int .i64) 27,
    bi 29 .neq 23 28,
    mv 18 29]) (BI9)) (BI8)
def BVz:Cd:=.cond (.t 14) (.seq (td [14]) (BV1)) (.seq (td [14]) (BI7))
def BVy:Cd:=.seq (.seq (.reg false [ld 15 (.int .i64) 0,
    ld 16 (.int .i64) 2,
    bi 17 .eql 15 16,
    mv 14 17]) (BV0)) (BVz)
def BVu:Cd:=.cond (.t 4) (.seq (td [4]) (BVw)) (.seq (td [4]) (BVy))
def BJd:Cd:=.ret
def BVt:Cd:=.seq (.reg false [ci 3 0]) (BJd)
def BVs:Cd:=.seq (.block 0 (.seq (.seq (.reg false [ld 5 (.int .i64) 0,
    bc 6 .lss 5 0,
    mv 7 6,
    og 8 (.load (.d (.int .i64)) (.t 0)) 7 false,
    og 9 (.fieldAddr (.d Zb) 1 (.t 1)) 7 false,
    og 10 (.load (.d (.sl (.int .i64))) (.t 9)) 7 false,
    og 11 (.len (.t 10)) 7 false,
    og 12 (.bin .geq (.t 8) (.t 11)) 7 false,
    o_ 13 (.pick (.t 7) (.c .bool true) (.t 12)),
    mv 4 13]) (BVv)) (BVu))) (BVt)
def Jw.fn:Fn:=⟨3,[.tmp 3],.seq (.reg false [ci 3 0]) (BVs)⟩
def AYv:Cd:=td [12,13]
def AYx:Cd:=td [14]
def AY0:Cd:=td [16,17]
def AYz:Cd:=.ret
def AYy:Cd:=.seq (.seq (.reg false [ld 16 Zb 2,
    mv 17 8,
    sr Zb 5 16,
    ci 6 0,
    mv 7 17]) (AY0)) (AYz)
def AY1:Cd:=.skip
def AYw:Cd:=.cond (.t 15) (.seq (td [15]) (AYy)) (.seq (td [15]) (AY1))
def AYu:Cd:=.seq (.seq (.reg false [mv 14 8,
    bc 15 .neq 14 0]) (AYx)) (AYw)
def AQ6:Cd:=td [18,19,20,21,22,23,24,25,26,27,28]
def AQ9:Cd:=td [29]
def ARc:Cd:=td [31]
def ARb:Cd:=.ret
def ARa:Cd:=.seq (.seq (.reg false [ld 31 Zb 2,
    sr Zb 5 31,
    ci 6 0,
    ci 7 4]) (ARc)) (ARb)
def ARd:Cd:=.skip
def AQ8:Cd:=.cond (.t 30) (.seq (td [30]) (ARa)) (.seq (td [30]) (ARd))
def ARf:Cd:=td [32,33]
def ARh:Cd:=td [34,35,36,37,38]
def ARj:Cd:=td [39,40]
def ARi:Cd:=.ret
def ARg:Cd:=.seq (.seq (.reg false [ld 39 Zb 11,
    mv 40 9,
    sr Zb 5 39,
    mv 6 40,
    ci 7 0]) (ARj)) (ARi)
def ARe:Cd:=.seq (.seq (.reg false [fa 34 Zb 1 11,
    o_ 35 (.load (.d (.sl (.int .i64))) (.t 34)),
    mv 36 0,
    mv 37 9,
    ix 38 (.sl (.int .i64)) 35 36,
    sr (.int .i64) 38 37]) (ARh)) (ARg)
def AQ7:Cd:=.seq (.seq (.reg false [ld 32 Zb 2,
    o_ 33 (.call (.f 118) [(.t 32)] [.d Zb] [((0,[1]),2)] false),
    nb 11 1 Zb,
    sr Zb 11 33]) (ARf)) (ARe)
def AQ5:Cd:=.seq (.seq (.seq (.reg false [mv 29 10,
    nt 30 29]) (AQ9)) (AQ8)) (AQ7)
def AYt:Cd:=.seq (.seq (.reg true [ld 19 Zb 2,
    fa 20 Zb 1 2,
    o_ 21 (.load (.d (.sl (.int .i64))) (.t 20)),
    mv 22 0,
    ix 23 (.sl (.int .i64)) 21 22,
    ld 24 (.int .i64) 23,
    ld 25 (.int .i64) 3,
    o_ 26 (.call (.f 25) [(.t 19),(.t 24),(.t 25)] [.d (.int .i64),.d .bool] [] false),
    mv 18 26,
    xt 27 18 0,
    xt 28 18 1,
    mv 9 27,
    mv 10 28]) (AQ6)) (AQ5)
def AYs:Cd:=.seq (.seq (.seq (.reg false [o_ 12 (.load (.v false 1) (.t 1)),
    o_ 13 (.call (.t 12) [] [.d (.int .i64)] [] false),
    mv 8 13]) (AYv)) (AYu)) (AYt)
def Q6.fn:Fn:=⟨4,[.cell 5 (.d Zb),.tmp 6,.tmp 7],.seq (.reg false [nb 5 0 Zb,
    ci 6 0,
    ci 7 0]) (AYs)⟩
def BRw:Cd:=.reg true [od 11 (.load (.d Zb) (.t 4)) [0] [],
    mv 12 3,
    o_ 13 (.func 86 [(.t 6),(.t 4),(.t 5)]),
    od 14 (.call (.f 84) [(.t 11),(.t 12),(.t 13)] [.clo 136 [.refv (.clo 86 [.ref (.int .i64),.ref Zb,.ref (.int .i64)]),.ref Zb,.ref (.int .i64)]] [] false) [0,1,2] [],
    od 15 (.load (.d (.int .i64)) (.t 6)) [2] [],
    o_ 16 (.call (.t 14) [(.t 15)] [.d Zb,.d (.int .i64),.d (.int .i64)] [] false),
    xt 17 16 0,
    xt 18 16 1,
    xt 19 16 2,
    ⟨none,.store (.d Zb) (.t 8) (.t 17),none,[],[3]⟩,
    mv 9 18,
    mv 10 19]
def BRv:Cd:=td [11,12,13,14,15,16,17,18,19]
def BRu:Cd:=.ret
def BRt:Cd:=.seq (.seq (.seq (.frz [0,1,2]) (BRw)) (BRv)) (BRu)
def Kv.fn:Fn:=⟨4,[.cell 8 (.d Zb),.tmp 9,.tmp 10],.seq (.reg false [bx 4 0 0,
    bx 5 1 1,
    bx 6 2 2,
    nb 8 3 Zb,
    ci 9 0,
    ci 10 0]) (BRt)⟩
def BRs:Cd:=td [9,10,11,12,13,14,15,16,17,18]
def BRr:Cd:=.ret
def BRq:Cd:=.seq (.seq (.reg false [ld 9 Zb 3,
    mv 10 1,
    fa 11 Z2 4 5,
    ld 12 (.int .i64) 11,
    fa 13 Z2 1 5,
    ld 14 (.int .i64) 13,
    o_ 15 (.call (.f 54) [(.t 9),(.t 10),(.t 12),(.t 14)] [.d Zb,.d (.int .i64),.d (.int .i64)] [] false),
    xt 16 15 0,
    xt 17 15 1,
    xt 18 15 2,
    sr Zb 6 16,
    mv 7 17,
    mv 8 18]) (BRs)) (BRr)
def Qs.fn:Fn:=⟨3,[.cell 6 (.d Zb),.tmp 7,.tmp 8],.seq (.reg false [bx 3 0 0,
    bx 5 1 2,
    nb 6 2 Zb,
    ci 7 0,
    ci 8 0]) (BRq)⟩
def BVa:Cd:=td [12,13,14,15,16,17,18,19,20]
def BVc:Cd:=td [21,22,23,24,25,26]
def BVb:Cd:=.ret
def BU9:Cd:=.seq (.seq (.reg true [od 21 (.load (.d Zb) (.t 9)) [4] [],
    od 22 (.fieldAddr (.d Z2) 0 (.t 6)) [1] [],
    od 23 (.load (.d (.int .i64)) (.t 22)) [1] [],
    mv 24 10,
    mv 25 11,
    o_ 26 (.call (.f 83) [(.t 23),(.t 24),(.t 25)] [.d Xm] [] false),
    ⟨none,.store (.d Zb) (.t 7) (.t 21),none,[],[2]⟩,
    ⟨none,.store (.d Xm) (.t 8) (.t 26),none,[],[3]⟩]) (BVc)) (BVb)
def BU8:Cd:=.seq (.seq (.reg false [o_ 13 (.load (.v false 1) (.t 3)),
    ld 14 Zb 4,
    mv 15 1,
    ld 16 Z2 6,
    o_ 17 (.call (.t 13) [(.t 14),(.t 15),(.t 16)] [.d Zb,.d (.int .i64),.d (.int .i64)] [] false),
    mv 12 17,
    xt 18 12 0,
    xt 19 12 1,
    xt 20 12 2,
    nb 9 4 Zb,
    sr Zb 9 18,
    mv 10 19,
    mv 11 20]) (BVa)) (BU9)
def Qy.fn:Fn:=⟨4,[.cell 7 (.d Zb),.cell 8 (.d Xm)],.seq (.reg false [bx 4 0 0,
    bx 6 1 2,
    nb 7 2 Zb,
    nb 8 3 Xm]) (BU8)⟩
def BVr:Cd:=.ret
def BVq:Cd:=.seq (.reg false [ci 0 0]) (BVr)
def Vm.fn:Fn:=⟨0,[.tmp 0],.seq (.reg false [ci 0 0]) (BVq)⟩
def BRp:Cd:=td [9,10,11,12,13,14,15,16]
def BRo:Cd:=.ret
def BRn:Cd:=.seq (.seq (.reg false [ld 9 Zb 3,
    mv 10 2,
    o_ 11 (.call (.f 84) [(.t 9),(.t 10),(.f 85)] [.clo 136 [.refv (.clo 85 []),.ref Zb,.ref (.int .i64)]] [] false),
    mv 12 1,
    o_ 13 (.call (.t 11) [(.t 12)] [.d Zb,.d (.int .i64),.d (.int .i64)] [] false),
    xt 14 13 0,
    xt 15 13 1,
    xt 16 13 2,
    sr Zb 6 14,
    mv 7 15,
    mv 8 16]) (BRp)) (BRo)
def Ku.fn:Fn:=⟨3,[.cell 6 (.d Zb),.tmp 7,.tmp 8],.seq (.reg false [bx 3 0 0,
    nb 6 1 Zb,
    ci 7 0,
    ci 8 0]) (BRn)⟩
def BRm:Cd:=td [9,10,11,12,13,14,15,16]
def BRl:Cd:=.ret
def BRk:Cd:=.seq (.seq (.reg false [ld 9 Zb 3,
    mv 10 1,
    fa 11 Z2 1 5,
    ld 12 (.int .i64) 11,
    o_ 13 (.call (.f 52) [(.t 9),(.t 10),(.t 12)] [.d Zb,.d (.int .i64),.d (.int .i64)] [] false),
    xt 14 13 0,
    xt 15 13 1,
    xt 16 13 2,
    sr Zb 6 14,
    mv 7 15,
    mv 8 16]) (BRm)) (BRl)
def Qr.fn:Fn:=⟨3,[.cell 6 (.d Zb),.tmp 7,.tmp 8],.seq (.reg false [bx 3 0 0,
    bx 5 1 2,
    nb 6 2 Zb,
    ci 7 0,
    ci 8 0]) (BRk)⟩
def BLd:Cd:=td [8,9]
def BLg:Cd:=td [11,12]
def BLf:Cd:=.ret
def BLe:Cd:=.seq (.seq (.reg false [ld 11 Zb 3,
    o_ 12 (.build Xm [(0,(.c (.int .i64) (2:Int)))] []),
    sr Zb 6 11,
    sr Xm 7 12]) (BLg)) (BLf)
def BLh:Cd:=.skip
def BLc:Cd:=.cond (.t 10) (.seq (td [10]) (BLe)) (.seq (td [10]) (BLh))
def BLj:Cd:=td [13,14,15,16,17,18,19,20,21,22]
def BLi:Cd:=.ret
def BLb:Cd:=.seq (.seq (.reg true [o_ 13 (.call (.f 28) [] [.fmap [1,2,3,4,5,6,7,8,9,10] [.clo 82 [.refv (.clo 51 [])],.clo 82 [.refv (.clo 53 [])],.clo 87 [.refv (.clo 56 [])],.clo 87 [.refv (.clo 58 [])],.clo 87 [.refv (.clo 60 [])],.clo 87 [.refv (.clo 62 [])],.clo 87 [.refv (.clo 64 [])],.clo 87 [.refv (.clo 66 [])],.clo 119 [.refv (.clo 68 [])],.clo 119 [.refv (.clo 69 [])]]] [] false),
    od 14 (.fieldAddr (.d Z2) 0 (.t 5)) [1] [],
    od 15 (.load (.d (.int .i64)) (.t 14)) [1] [],
    o_ 16 (.lookv (.t 13) (.t 15) false),
    od 17 (.load (.d Zb) (.t 3)) [0] [],
    mv 18 1,
    od 19 (.load (.d Z2) (.t 5)) [1] [],
    o_ 20 (.call (.t 16) [(.t 17),(.t 18),(.t 19)] [.d Zb,.d Xm] [] false),
    xt 21 20 0,
    xt 22 20 1,
    ⟨none,.store (.d Zb) (.t 6) (.t 21),none,[],[2]⟩,
    ⟨none,.store (.d Xm) (.t 7) (.t 22),none,[],[3]⟩]) (BLj)) (BLi)
def BLa:Cd:=.seq (.seq (.seq (.reg false [ld 8 Z2 5,
    o_ 9 (.call (.f 27) [(.t 8)] [.d .bool] [] false),
    nt 10 9]) (BLd)) (BLc)) (BLb)
def J1.fn:Fn:=⟨3,[.cell 6 (.d Zb),.cell 7 (.d Xm)],.seq (.reg false [bx 3 0 0,
    bx 5 1 2,
    nb 6 2 Zb,
    nb 7 3 Xm]) (BLa)⟩
def BL5:Cd:=td [8,9,10]
def BL6:Cd:=.skip
def AZj:Cd:=.exit 0
def BL4:Cd:=.cond (.t 11) (.seq (td [11]) (BL6)) (.seq (td [11]) (AZj))
def AZe:Cd:=td [14,15,16,17,18,19,20,21,22,23,24,25,26,27,28]
def AZg:Cd:=.ret
def AZf:Cd:=.seq (.reg false [o_ 6 (.move (.c .bool true))]) (AZg)
def AZh:Cd:=.skip
def AZd:Cd:=.cond (.t 29) (.seq (td [29]) (AZf)) (.seq (td [29]) (AZh))
def AZi:Cd:=td [12,13]
def BL7:Cd:=.seq (.reg false [mv 12 7,
    bc 13 .add 12 1,
    mv 7 13]) (AZi)
def BL3:Cd:=.seq (.block 1 (.seq (.seq (.reg false [mv 14 0,
    mv 15 7,
    ix 16 (.sl Za) 14 15,
    fa 17 Za 0 16,
    ld 18 (.int .i64) 17,
    mv 19 1,
    bi 20 .eql 18 19,
    mv 21 20,
    og 22 (.move (.t 0)) 21 true,
    og 23 (.move (.t 7)) 21 true,
    og 24 (.index (.sl Za) (.t 22) (.t 23)) 21 true,
    og 25 (.fieldAddr (.d Za) 1 (.t 24)) 21 true,
    og 26 (.load (.d (.int .i64)) (.t 25)) 21 true,
    og 27 (.move (.t 2)) 21 true,
    og 28 (.bin .eql (.t 26) (.t 27)) 21 true,
    o_ 29 (.pick (.t 21) (.t 28) (.c .bool false))]) (AZe)) (AZd))) (BL7)
def BL2:Cd:=.tidy [] [] [] (some 0)
def ATa:Cd:=.seq (.seq (.seq (.seq (.reg false [mv 8 7,
    mv 9 0,
    le 10 9,
    bi 11 .lss 8 10]) (BL5)) (BL4)) (BL3)) (BL2)
def BL1:Cd:=.block 0 (.loop (ATa))
def AZk:Cd:=.ret
def AS9:Cd:=.seq (.reg false [o_ 6 (.move (.c .bool false))]) (AZk)
def BL0:Cd:=.seq (.seq (.reg false [ci 7 0]) (BL1)) (AS9)
def Zz.fn:Fn:=⟨3,[.tmp 6],.seq (.reg false [o_ 6 (.move (.c .bool false))]) (BL0)⟩
def BOw:Cd:=td [6,7,8,9,10]
def BOz:Cd:=td [11,12]
def BO2:Cd:=td [14]
def BO1:Cd:=.ret
def BO0:Cd:=.seq (.seq (.reg false [ld 14 Za 5,
    sr Za 4 14]) (BO2)) (BO1)
def BO3:Cd:=.skip
def BOy:Cd:=.cond (.t 13) (.seq (td [13]) (BO0)) (.seq (td [13]) (BO3))
def BB7:Cd:=td [15,16,17,18]
def BB6:Cd:=.ret
def BOx:Cd:=.seq (.seq (.reg false [ld 15 Zb 2,
    fa 16 Za 1 5,
    ld 17 (.int .i64) 16,
    o_ 18 (.call (.f 32) [(.t 15),(.t 17)] [.d Za] [] false),
    sr Za 4 18]) (BB7)) (BB6)
def BOv:Cd:=.seq (.seq (.seq (.reg false [fa 11 Za 0 5,
    ld 12 (.int .i64) 11,
    bc 13 .neq 12 2]) (BOz)) (BOy)) (BOx)
def BOu:Cd:=.seq (.seq (.reg false [fa 6 Zb 3 2,
    ld 7 (.sl Za) 6,
    mv 8 1,
    ix 9 (.sl Za) 7 8,
    ld 10 Za 9,
    nb 5 2 Za,
    sr Za 5 10]) (BOw)) (BOv)
def X6.fn:Fn:=⟨2,[.cell 4 (.d Za)],.seq (.reg false [bx 2 0 0,
    nb 4 1 Za]) (BOu)⟩
def BLx:Cd:=td [12,13,14,15]
def BLy:Cd:=.skip
def AXv:Cd:=.exit 0
def BLw:Cd:=.cond (.t 16) (.seq (td [16]) (BLy)) (.seq (td [16]) (AXv))
def AXo:Cd:=td [19,20,21,22,23,24,25,26,27,28,29,30,31,32,33,34,35,36,37,38,39,40,41,42]
def AXq:Cd:=td [43,44,45,46,47,48,49]
def AXs:Cd:=.ret
def AXr:Cd:=.seq (.reg false [o_ 6 (.move (.c .bool false))]) (AXs)
def AXt:Cd:=.skip
def AXp:Cd:=.cond (.t 50) (.seq (td [50]) (AXr)) (.seq (td [50]) (AXt))
def AXn:Cd:=.seq (.seq (.reg false [mv 43 8,
    nt 44 43,
    mv 45 44,
    og 46 (.move (.t 0)) 45 true,
    og 47 (.move (.t 7)) 45 true,
    og 48 (.call (.f 13) [(.t 46),(.c (.int .i64) (1:Int)),(.t 47)] [.d .bool] [] false) 45 true,
    og 49 (.not (.t 48)) 45 true,
    o_ 50 (.pick (.t 45) (.t 49) (.c .bool false))]) (AXq)) (AXp)
def AXu:Cd:=td [17,18]
def BLz:Cd:=.seq (.reg false [mv 17 7,
    bc 18 .add 17 1,
    mv 7 18]) (AXu)
def BLv:Cd:=.seq (.block 1 (.seq (.seq (.reg true [od 19 (.fieldAddr (.d Zb) 1 (.t 4)) [0] [],
    od 20 (.load (.d (.sl (.int .i64))) (.t 19)) [0] [],
    mv 21 7,
    ix 22 (.sl (.int .i64)) 20 21,
    ld 23 (.int .i64) 22,
    od 24 (.fieldAddr (.d Zb) 1 (.t 5)) [1] [],
    od 25 (.load (.d (.sl (.int .i64))) (.t 24)) [1] [],
    mv 26 7,
    ix 27 (.sl (.int .i64)) 25 26,
    ld 28 (.int .i64) 27,
    bi 29 .eql 23 28,
    mv 30 29,
    ogd 31 (.fieldAddr (.d Zb) 2 (.t 4)) 30 true [0],
    ogd 32 (.load (.d (.sl (.int .i64))) (.t 31)) 30 true [0],
    og 33 (.move (.t 7)) 30 true,
    og 34 (.index (.sl (.int .i64)) (.t 32) (.t 33)) 30 true,
    og 35 (.load (.d (.int .i64)) (.t 34)) 30 true,
    ogd 36 (.fieldAddr (.d Zb) 2 (.t 5)) 30 true [1],
    ogd 37 (.load (.d (.sl (.int .i64))) (.t 36)) 30 true [1],
    og 38 (.move (.t 7)) 30 true,
    og 39 (.index (.sl (.int .i64)) (.t 37) (.t 38)) 30 true,
    og 40 (.load (.d (.int .i64)) (.t 39)) 30 true,
    og 41 (.bin .eql (.t 35) (.t 40)) 30 true,
    o_ 42 (.pick (.t 30) (.t 41) (.c .bool false)),
    mv 8 42]) (AXo)) (AXn))) (BLz)
def BLu:Cd:=.tidy [8] [] [] (some 2)
def AS8:Cd:=.seq (.seq (.seq (.seq (.reg false [mv 12 7,
    fa 13 Zb 1 4,
    o_ 14 (.load (.d (.sl (.int .i64))) (.t 13)),
    le 15 14,
    bi 16 .lss 12 15]) (BLx)) (BLw)) (BLv)) (BLu)
def BLt:Cd:=.block 0 (.loop (AS8))
def AX0:Cd:=td [51,52,53,54]
def AX1:Cd:=.skip
def AYi:Cd:=.exit 2
def AXz:Cd:=.cond (.t 55) (.seq (td [55]) (AX1)) (.seq (td [55]) (AYi))
def AX5:Cd:=td [58,59,60,61,62,63,64,65,66,67]
def AX6:Cd:=.exit 3
def AX8:Cd:=.skip
def AX4:Cd:=.cond (.t 68) (.seq (td [68]) (AX6)) (.seq (td [68]) (AX8))
def AYa:Cd:=td [69,70,71]
def AYc:Cd:=td [72,73,74]
def AYe:Cd:=td [75,76,77,78,79,80,81,82,83,84,85,86,87,88,89]
def AYg:Cd:=.ret
def AYf:Cd:=.seq (.reg false [o_ 6 (.move (.c .bool false))]) (AYg)
def AYh:Cd:=.skip
def AYd:Cd:=.cond (.t 90) (.seq (td [90]) (AYf)) (.seq (td [90]) (AYh))
def AYb:Cd:=.seq (.seq (.reg false [mv 75 0,
    fa 76 Za 0 10,
    ld 77 (.int .i64) 76,
    fa 78 Za 1 10,
    ld 79 (.int .i64) 78,
    o_ 80 (.call (.f 13) [(.t 75),(.t 77),(.t 79)] [.d .bool] [] false),
    nt 81 80,
    mv 82 81,
    og 83 (.move (.t 0)) 82 false,
    og 84 (.fieldAddr (.d Za) 0 (.t 11)) 82 false,
    og 85 (.load (.d (.int .i64)) (.t 84)) 82 false,
    og 86 (.fieldAddr (.d Za) 1 (.t 11)) 82 false,
    og 87 (.load (.d (.int .i64)) (.t 86)) 82 false,
    og 88 (.call (.f 13) [(.t 83),(.t 85),(.t 87)] [.d .bool] [] false) 82 false,
    og 89 (.not (.t 88)) 82 false,
    o_ 90 (.pick (.t 82) (.c .bool true) (.t 89))]) (AYe)) (AYd)
def AX9:Cd:=.seq (.seq (.reg false [ld 72 Zb 5,
    mv 73 9,
    o_ 74 (.call (.f 32) [(.t 72),(.t 73)] [.d Za] [] false),
    nb 11 3 Za,
    sr Za 11 74]) (AYc)) (AYb)
def AX3:Cd:=.seq (.seq (.reg false [ld 69 Zb 4,
    mv 70 9,
    o_ 71 (.call (.f 32) [(.t 69),(.t 70)] [.d Za] [] false),
    nb 10 2 Za,
    sr Za 10 71]) (AYa)) (AX9)
def AX7:Cd:=td [56,57]
def AX2:Cd:=.seq (.reg false [mv 56 9,
    bc 57 .add 56 1,
    mv 9 57]) (AX7)
def AXy:Cd:=.seq (.block 3 (.seq (.seq (.seq (.reg true [od 58 (.fieldAddr (.d Zb) 3 (.t 4)) [0] [],
    od 59 (.load (.d (.sl Za)) (.t 58)) [0] [],
    mv 60 9,
    ix 61 (.sl Za) 59 60,
    ld 62 Za 61,
    od 63 (.fieldAddr (.d Zb) 3 (.t 5)) [1] [],
    od 64 (.load (.d (.sl Za)) (.t 63)) [1] [],
    mv 65 9,
    ix 66 (.sl Za) 64 65,
    ld 67 Za 66,
    o_ 68 (.eqs Za false (.t 62) (.t 67))]) (AX5)) (AX4)) (AX3))) (AX2)
def AXx:Cd:=.tidy [10,11] [] [] (some 2)
def ALt:Cd:=.seq (.seq (.seq (.seq (.reg false [mv 51 9,
    fa 52 Zb 3 4,
    ld 53 (.sl Za) 52,
    le 54 53,
    bi 55 .lss 51 54]) (AX0)) (AXz)) (AXy)) (AXx)
def AXw:Cd:=.block 2 (.loop (ALt))
def AYj:Cd:=.ret
def ALs:Cd:=.seq (.reg false [o_ 6 (.move (.c .bool true))]) (AYj)
def AS7:Cd:=.seq (.seq (.reg false [ci 9 0]) (AXw)) (ALs)
def BLs:Cd:=.seq (.seq (.reg false [ci 7 0]) (BLt)) (AS7)
def Zk.fn:Fn:=⟨3,[.tmp 6],.seq (.reg false [bx 4 0 1,
    bx 5 1 2,
    o_ 6 (.move (.c .bool false))]) (BLs)⟩
def BMb:Cd:=td [5,6,7,8,9,10,11,12,13,14,15,16,17,18,19]
def BMe:Cd:=td [21,22]
def BMd:Cd:=.ret
def BMc:Cd:=.seq (.seq (.reg false [fa 21 Za 1 3,
    ld 22 (.int .i64) 21,
    mv 4 22]) (BMe)) (BMd)
def BMf:Cd:=.skip
def BMa:Cd:=.cond (.t 20) (.seq (td [20]) (BMc)) (.seq (td [20]) (BMf))
def AZl:Cd:=td [23,24,25,26,27,28,29,30,31,32,33,34,35,36,37]
def AZo:Cd:=td [39,40,41,42,43,44]
def AZn:Cd:=.ret
def AZm:Cd:=.seq (.seq (.reg false [fa 39 Xa 0 2,
    o_ 40 (.load (.d (.sl (.arr 4 (.int .i64)))) (.t 39)),
    le 41 40,
    fa 42 Za 1 3,
    ld 43 (.int .i64) 42,
    bi 44 .add 41 43,
    mv 4 44]) (AZo)) (AZn)
def AZp:Cd:=.skip
def BMh:Cd:=.cond (.t 38) (.seq (td [38]) (AZm)) (.seq (td [38]) (AZp))
def AZq:Cd:=.ret
def BMg:Cd:=.seq (.reg false [o_ 4 (.move (.c (.int .i64) ((-1):Int)))]) (AZq)
def BL9:Cd:=.seq (.seq (.seq (.reg false [fa 23 Za 0 3,
    ld 24 (.int .i64) 23,
    bc 25 .eql 24 1,
    mv 26 25,
    og 27 (.fieldAddr (.d Za) 1 (.t 3)) 26 true,
    og 28 (.load (.d (.int .i64)) (.t 27)) 26 true,
    og 29 (.bin .geq (.t 28) (.c (.int .i64) (0:Int))) 26 true,
    o_ 30 (.pick (.t 26) (.t 29) (.c .bool false)),
    mv 31 30,
    og 32 (.fieldAddr (.d Za) 1 (.t 3)) 31 true,
    og 33 (.load (.d (.int .i64)) (.t 32)) 31 true,
    og 34 (.fieldAddr (.d Xa) 1 (.t 2)) 31 true,
    og 35 (.load (.d (.sl (.int .i64))) (.t 34)) 31 true,
    og 36 (.len (.t 35)) 31 true,
    og 37 (.bin .lss (.t 33) (.t 36)) 31 true,
    o_ 38 (.pick (.t 31) (.t 37) (.c .bool false))]) (AZl)) (BMh)) (BMg)
def BL8:Cd:=.seq (.seq (.seq (.reg false [fa 5 Za 0 3,
    ld 6 (.int .i64) 5,
    bc 7 .eql 6 0,
    mv 8 7,
    og 9 (.fieldAddr (.d Za) 1 (.t 3)) 8 true,
    og 10 (.load (.d (.int .i64)) (.t 9)) 8 true,
    og 11 (.bin .geq (.t 10) (.c (.int .i64) (0:Int))) 8 true,
    o_ 12 (.pick (.t 8) (.t 11) (.c .bool false)),
    mv 13 12,
    og 14 (.fieldAddr (.d Za) 1 (.t 3)) 13 true,
    og 15 (.load (.d (.int .i64)) (.t 14)) 13 true,
    og 16 (.fieldAddr (.d Xa) 0 (.t 2)) 13 true,
    og 17 (.load (.d (.sl (.arr 4 (.int .i64)))) (.t 16)) 13 true,
    og 18 (.len (.t 17)) 13 true,
    og 19 (.bin .lss (.t 15) (.t 18)) 13 true,
    o_ 20 (.pick (.t 13) (.t 19) (.c .bool false))]) (BMb)) (BMa)) (BL9)
def Xy.fn:Fn:=⟨2,[.tmp 4],.seq (.reg false [bx 2 0 0,
    bx 3 1 1,
    ci 4 0]) (BL8)⟩
def BMk:Cd:=td [5,6,7,8,9,10,11,12,13,14,15,16,17,18,19,20,21,22,23]
def BMj:Cd:=.ret
def BMi:Cd:=.seq (.seq (.reg false [fa 5 Za 0 2,
    ld 6 (.int .i64) 5,
    fa 7 Za 0 3,
    ld 8 (.int .i64) 7,
    bi 9 .lss 6 8,
    mv 10 9,
    og 11 (.fieldAddr (.d Za) 0 (.t 2)) 10 false,
    og 12 (.load (.d (.int .i64)) (.t 11)) 10 false,
    og 13 (.fieldAddr (.d Za) 0 (.t 3)) 10 false,
    og 14 (.load (.d (.int .i64)) (.t 13)) 10 false,
    og 15 (.bin .eql (.t 12) (.t 14)) 10 false,
    og 16 (.move (.t 15)) 10 false,
    og 17 (.fieldAddr (.d Za) 1 (.t 2)) 16 true,
    og 18 (.load (.d (.int .i64)) (.t 17)) 16 true,
    og 19 (.fieldAddr (.d Za) 1 (.t 3)) 16 true,
    og 20 (.load (.d (.int .i64)) (.t 19)) 16 true,
    og 21 (.bin .lss (.t 18) (.t 20)) 16 true,
    og 22 (.pick (.t 16) (.t 21) (.c .bool false)) 10 false,
    o_ 23 (.pick (.t 10) (.c .bool true) (.t 22)),
    mv 4 23]) (BMk)) (BMj)
def Yg.fn:Fn:=⟨2,[.tmp 4],.seq (.reg false [bx 2 0 0,
    bx 3 1 1,
    o_ 4 (.move (.c .bool false))]) (BMi)⟩
def BYp:Cd:=td [12,13,14,15,16,17,18,19,20,21,22,23,24,25,26,27]
def BYs:Cd:=td [29]
def BYr:Cd:=.ret
def BYq:Cd:=.seq (.seq (.reg false [o_ 29 (.call (.f 5) [] [.d .bool] [] false),
    mv 6 29]) (BYs)) (BYr)
def BYt:Cd:=.skip
def BYo:Cd:=.cond (.t 28) (.seq (td [28]) (BYq)) (.seq (td [28]) (BYt))
def BYv:Cd:=td [30,31,32,33,34,35]
def BPt:Cd:=td [36,37,38,39]
def BPv:Cd:=td [10,40,41,42,43,44,45,46]
def BPy:Cd:=td [47,48,49,50,51,52,53,54,55,56,57,58,59,60,61,62,63,64,65,66,67,68,69,70,71,72,73,74,75,76,77,78,79,80,81,82,83]
def BP0:Cd:=.ret
def BPz:Cd:=.seq (.reg false [o_ 6 (.move (.c .bool false))]) (BP0)
def BP1:Cd:=.skip
def BPx:Cd:=.cond (.t 84) (.seq (td [84]) (BPz)) (.seq (td [84]) (BP1))
def BP6:Cd:=td [85,86,87]
def BP7:Cd:=.skip
def BQf:Cd:=.exit 0
def BP5:Cd:=.cond (.t 88) (.seq (td [88]) (BP7)) (.seq (td [88]) (BQf))
def BQa:Cd:=td [91,92,93,94,95,96,97,98,99,100,101,102,103,104,105,106,107,108,109,110,111,112,113,114]
def BQc:Cd:=.ret
def BQb:Cd:=.seq (.reg false [o_ 6 (.move (.c .bool false))]) (BQc)
def BQd:Cd:=.skip
def BP9:Cd:=.cond (.t 115) (.seq (td [115]) (BQb)) (.seq (td [115]) (BQd))
def BQe:Cd:=td [89,90]
def BP8:Cd:=.seq (.reg false [mv 89 11,
    bc 90 .add 89 1,
    mv 11 90]) (BQe)
def BP4:Cd:=.seq (.block 1 (.seq (.seq (.reg true [od 91 (.fieldAddr (.d Zb) 0 (.t 3)) [0] [],
    od 92 (.load (.d Xa) (.t 91)) [0] [],
    mv 93 8,
    mv 94 11,
    ix 95 (.sl Za) 93 94,
    ld 96 Za 95,
    o_ 97 (.call (.f 14) [(.t 92),(.t 96)] [.d (.int .i64)] [] false),
    bc 98 .lss 97 0,
    mv 99 98,
    og 100 (.move (.t 11)) 99 false,
    og 101 (.bin .gtr (.t 100) (.c (.int .i64) (0:Int))) 99 false,
    og 102 (.move (.t 101)) 99 false,
    og 103 (.move (.t 8)) 102 true,
    og 104 (.move (.t 11)) 102 true,
    og 105 (.bin .sub (.t 104) (.c (.int .i64) (1:Int))) 102 true,
    og 106 (.index (.sl Za) (.t 103) (.t 105)) 102 true,
    og 107 (.load (.d Za) (.t 106)) 102 true,
    og 108 (.move (.t 8)) 102 true,
    og 109 (.move (.t 11)) 102 true,
    og 110 (.index (.sl Za) (.t 108) (.t 109)) 102 true,
    og 111 (.load (.d Za) (.t 110)) 102 true,
    og 112 (.call (.f 15) [(.t 107),(.t 111)] [.d .bool] [] false) 102 true,
    og 113 (.not (.t 112)) 102 true,
    og 114 (.pick (.t 102) (.t 113) (.c .bool false)) 99 false,
    o_ 115 (.pick (.t 99) (.c .bool true) (.t 114))]) (BQa)) (BP9))) (BP8)
def BP3:Cd:=.tidy [] [] [] (some 4)
def ATg:Cd:=.seq (.seq (.seq (.seq (.reg false [mv 85 11,
    mv 86 8,
    le 87 86,
    bi 88 .lss 85 87]) (BP6)) (BP5)) (BP4)) (BP3)
def BP2:Cd:=.block 0 (.loop (ATg))
def BQg:Cd:=.ret
def ATf:Cd:=.seq (.reg false [o_ 6 (.move (.c .bool true))]) (BQg)
def BPw:Cd:=.seq (.seq (.reg false [ci 11 0]) (BP2)) (ATf)
def BPu:Cd:=.seq (.seq (.seq (.reg false [mv 47 8,
    ld 48 Zb 3,
    ld 49 Zb 9,
    o_ 50 (.call (.f 11) [(.t 47),(.t 48),(.t 49)] [.d .bool] [] false),
    nt 51 50,
    mv 52 51,
    og 53 (.move (.t 8)) 52 false,
    og 54 (.load (.d Zb) (.t 3)) 52 false,
    og 55 (.load (.d Zb) (.t 9)) 52 false,
    og 56 (.call (.f 12) [(.t 53),(.t 54),(.t 55)] [.d .bool] [] false) 52 false,
    og 57 (.not (.t 56)) 52 false,
    o_ 58 (.pick (.t 52) (.c .bool true) (.t 57)),
    mv 59 58,
    og 60 (.move (.t 8)) 59 false,
    og 61 (.move (.t 7)) 59 false,
    og 62 (.call (.f 13) [(.t 60),(.c (.int .i64) (1:Int)),(.t 61)] [.d .bool] [] false) 59 false,
    og 63 (.not (.t 62)) 59 false,
    o_ 64 (.pick (.t 59) (.c .bool true) (.t 63)),
    mv 65 64,
    og 66 (.move (.t 8)) 65 false,
    og 67 (.fieldAddr (.d Zb) 1 (.t 3)) 65 false,
    og 68 (.load (.d (.sl (.int .i64))) (.t 67)) 65 false,
    og 69 (.move (.t 7)) 65 false,
    og 70 (.index (.sl (.int .i64)) (.t 68) (.t 69)) 65 false,
    og 71 (.load (.d (.int .i64)) (.t 70)) 65 false,
    og 72 (.call (.f 13) [(.t 66),(.c (.int .i64) (0:Int)),(.t 71)] [.d .bool] [] false) 65 false,
    og 73 (.not (.t 72)) 65 false,
    o_ 74 (.pick (.t 65) (.c .bool true) (.t 73)),
    mv 75 74,
    og 76 (.move (.t 8)) 75 false,
    og 77 (.fieldAddr (.d Zb) 1 (.t 9)) 75 false,
    og 78 (.load (.d (.sl (.int .i64))) (.t 77)) 75 false,
    og 79 (.move (.t 7)) 75 false,
    og 80 (.index (.sl (.int .i64)) (.t 78) (.t 79)) 75 false,
    og 81 (.load (.d (.int .i64)) (.t 80)) 75 false,
    og 82 (.call (.f 13) [(.t 76),(.c (.int .i64) (0:Int)),(.t 81)] [.d .bool] [] false) 75 false,
    og 83 (.not (.t 82)) 75 false,
    o_ 84 (.pick (.t 75) (.c .bool true) (.t 83))]) (BPy)) (BPx)) (BPw)
def BPs:Cd:=.seq (.seq (.reg false [ld 41 Zb 3,
    mv 42 7,
    ld 43 Z2 5,
    o_ 44 (.call (.f 10) [(.t 41),(.t 42),(.t 43)] [.d Zb,.d Xm] [] false),
    mv 40 44,
    xt 45 40 0,
    xt 46 40 1,
    nb 9 2 Zb,
    nb 10 3 Xm,
    sr Zb 9 45,
    sr Xm 10 46]) (BPv)) (BPu)
def BYu:Cd:=.seq (.seq (.reg false [ld 36 Zb 3,
    mv 37 7,
    ld 38 Z2 5,
    o_ 39 (.call (.f 9) [(.t 36),(.t 37),(.t 38)] [.d (.sl Za)] [] false),
    mv 8 39]) (BPt)) (BPs)
def BYn:Cd:=.seq (.seq (.reg false [mv 30 1,
    o_ 31 (.conv .i64 (.t 30)),
    fa 32 Zb 1 3,
    o_ 33 (.load (.d (.sl (.int .i64))) (.t 32)),
    le 34 33,
    bi 35 .rem 31 34,
    mv 7 35]) (BYv)) (BYu)
def BYm:Cd:=.seq (.seq (.seq (.reg false [o_ 12 (.call (.f 5) [] [.d .bool] [] false),
    nt 13 12,
    mv 14 13,
    og 15 (.load (.d Zb) (.t 3)) 14 false,
    og 16 (.call (.f 6) [(.t 15)] [.d .bool] [] false) 14 false,
    og 17 (.not (.t 16)) 14 false,
    o_ 18 (.pick (.t 14) (.c .bool true) (.t 17)),
    mv 19 18,
    og 20 (.load (.d Z2) (.t 5)) 19 false,
    og 21 (.call (.f 7) [(.t 20)] [.d .bool] [] false) 19 false,
    og 22 (.not (.t 21)) 19 false,
    o_ 23 (.pick (.t 19) (.c .bool true) (.t 22)),
    mv 24 23,
    og 25 (.load (.d Z2) (.t 5)) 24 false,
    og 26 (.call (.f 8) [(.t 25)] [.d .bool] [] false) 24 false,
    og 27 (.not (.t 26)) 24 false,
    o_ 28 (.pick (.t 24) (.c .bool true) (.t 27))]) (BYp)) (BYo)) (BYn)
def Zs.fn:Fn:=⟨3,[.tmp 6],.seq (.reg false [bx 3 0 0,
    bx 5 1 2,
    o_ 6 (.move (.c .bool false))]) (BYm)⟩
def BRj:Cd:=td [3]
def BRi:Cd:=.ret
def BRh:Cd:=.seq (.seq (.reg false [o_ 3 (.func 82 [(.t 1)]),
    mv 2 3]) (BRj)) (BRi)
def P7.fn:Fn:=⟨1,[.tmp 2],.seq (.reg false [bx 1 0 0,
    o_ 2 (.move .nf)]) (BRh)⟩
def BRz:Cd:=td [3]
def BRy:Cd:=.ret
def BRx:Cd:=.seq (.seq (.reg false [o_ 3 (.func 87 [(.t 1)]),
    mv 2 3]) (BRz)) (BRy)
def P8.fn:Fn:=⟨1,[.tmp 2],.seq (.reg false [bx 1 0 0,
    o_ 2 (.move .nf)]) (BRx)⟩
def BTx:Cd:=td [3]
def BTw:Cd:=.ret
def BTv:Cd:=.seq (.seq (.reg false [o_ 3 (.func 119 [(.t 1)]),
    mv 2 3]) (BTx)) (BTw)
def Rm.fn:Fn:=⟨1,[.tmp 2],.seq (.reg false [bx 1 0 0,
    o_ 2 (.move .nf)]) (BTv)⟩
def prog:FuncId→Option Fn
  | 3=>some Zs.fn
  | 5=>some X7.fn
  | 6=>some Yf.fn
  | 7=>some Yn.fn
  | 8=>some Yd.fn
  | 9=>some G4.fn
  | 10=>some J1.fn
  | 11=>some Z5.fn
  | 12=>some Zk.fn
  | 13=>some Zz.fn
  | 14=>some Xy.fn
  | 15=>some Yg.fn
  | 18=>some Jl.fn
  | 19=>some Vb.fn
  | 20=>some Qk.fn
  | 21=>some Ye.fn
  | 22=>some Zg.fn
  | 23=>some Zf.fn
  | 24=>some Zh.fn
  | 25=>some Jq.fn
  | 27=>some Hg.fn
  | 29=>some Yq.fn
  | 30=>some Z7.fn
  | 31=>some Vg.fn
  | 32=>some X6.fn
  | 36=>some Zc.fn
  | 37=>some Xc.fn
  | 38=>some Ym.fn
  | 39=>some Z1.fn
  | 40=>some Z3.fn
  | 41=>some Yo.fn
  | 44=>some Ho.fn
  | 45=>some Hp.fn
  | 46=>some Qo.fn
  | 47=>some G3.fn
  | 48=>some Kx.fn
  | 49=>some Gh.fn
  | 50=>some P7.fn
  | 51=>some Qr.fn
  | 52=>some Ku.fn
  | 53=>some Qs.fn
  | 54=>some Kv.fn
  | 55=>some P8.fn
  | 56=>some Qt.fn
  | 57=>some Hq.fn
  | 58=>some Qu.fn
  | 59=>some Kr.fn
  | 60=>some Qv.fn
  | 61=>some Km.fn
  | 62=>some Qw.fn
  | 63=>some Vy.fn
  | 64=>some Qx.fn
  | 65=>some Vz.fn
  | 66=>some Z6.fn
  | 67=>some Rm.fn
  | 68=>some V0.fn
  | 69=>some Ks.fn
  | 70=>some Zm.fn
  | 72=>some Gq.fn
  | 77=>some K8.fn
  | 78=>some U1.fn
  | 79=>some Zr.fn
  | 80=>some Xe.fn
  | 81=>some Ko.fn
  | 82=>some Qy.fn
  | 83=>some Yp.fn
  | 84=>some Kf.fn
  | 85=>some Vm.fn
  | 86=>some Jw.fn
  | 87=>some Qz.fn
  | 88=>some Jc.fn
  | 89=>some Ka.fn
  | 90=>some Qc.fn
  | 91=>some Y8.fn
  | 92=>some Q7.fn
  | 93=>some Jr.fn
  | 94=>some Va.fn
  | 95=>some Js.fn
  | 96=>some Jt.fn
  | 98=>some Ju.fn
  | 99=>some Jo.fn
  | 100=>some Xq.fn
  | 101=>some Jv.fn
  | 102=>some Je.fn
  | 103=>some Hi.fn
  | 104=>some Ys.fn
  | 105=>some Q0.fn
  | 106=>some Q2.fn
  | 107=>some Q3.fn
  | 108=>some Q4.fn
  | 109=>some Ha.fn
  | 110=>some Qg.fn
  | 111=>some Y0.fn
  | 113=>some Y6.fn
  | 114=>some Yt.fn
  | 115=>some Qf.fn
  | 116=>some Xu.fn
  | 117=>some Kp.fn
  | 118=>some Jp.fn
  | 119=>some Qe.fn
  | 120=>some Xg.fn
  | 121=>some X0.fn
  | 135=>some Zj.fn
  | 136=>some Q6.fn
  | 137=>some Y5.fn
  | 139=>some Gi.fn
  | _=>none
end Go.Proofs.YtmemggdjnfccfaaGreatDoor.Ghost
