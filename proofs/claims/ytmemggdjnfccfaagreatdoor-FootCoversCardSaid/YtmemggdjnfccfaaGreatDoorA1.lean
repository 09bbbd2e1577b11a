/- The ghost semantics, and memory as it has it. Conditions: none. -/
import GoSem.Dispatch
import Derived.Deep.MidRow
import Derived.Below
import Derived.Orders
set_option linter.unusedVariables false
set_option linter.unusedSimpArgs false
set_option linter.unusedSectionVars false
set_option linter.unnecessarySimpa false
namespace Go.Proofs.YtmemggdjnfccfaaGreatDoor.Ghost
open Go
inductive Ty where
  | bool | int (k:IntKind) | str
  | sl (e:Ty) | arr (n:Nat) (e:Ty) | st (fs:List Ty)
mutual
@[reducible] def den:Ty→Type
  | .bool=>Bool
  | .int _=>Int
  | .str=>ByteArray
  | .sl e=>List (den e)
  | .arr _ e=>List (den e)
  | .st fs=>Hh fs
@[reducible] def Hh:List Ty→Type
  | []=>Unit
  | t :: r=>den t×Hh r
end
mutual
def dft:(t:Ty)→den t
  | .bool=>false
  | .int _=>(0:Int)
  | .str=>(⟨#[]⟩:ByteArray)
  | .sl _=>[]
  | .arr n e=>List.replicate n (dft e)
  | .st fs=>BJ5 fs
def BJ5:(l:List Ty)→Hh l
  | []=>()
  | t :: r=>(dft t,BJ5 r)
end
mutual
def Zi:Ty→Nat
  | .st fs=>Uc fs
  | .arr n e=>n * Zi e
  | _=>1
def Uc:List Ty→Nat
  | []=>0
  | t :: r=>Zi t+Uc r
end
structure Dyn where
  τ:Ty
  x:den τ
abbrev Xb:=List Nat
def G9:(l:List Ty)→Nat→Hh l→Option Dyn
  | [],_,_=>none
  | t :: _,0,x=>some ⟨t,x.1⟩
  | _ :: r,n+1,x=>G9 r n x.2
def getP:Xb→(τ:Ty)→den τ→Option Dyn
  | [],τ,x=>some ⟨τ,x⟩
  | i :: p,.st fs,x=>match G9 fs i x with
    | some d=>getP p d.τ d.x
    | none=>none
  | i :: p,.arr _ e,x=>getP p e (List.getD x i (dft e))
  | _ :: _,_,_=>none
mutual
def K5:(a b:Ty)→Option (PLift (a=b))
  | .bool,.bool=>some ⟨rfl⟩
  | .int k,.int k'=>if h:k=k' then some ⟨by rw [h]⟩ else none
  | .str,.str=>some ⟨rfl⟩
  | .sl a,.sl b=>match K5 a b with | some ⟨h⟩=>some ⟨by rw [h]⟩ | none=>none
  | .arr n a,.arr m b=>if hn:n=m then match K5 a b with | some ⟨h⟩=>some ⟨by rw [h,hn]⟩ | none=>none else none
  | .st a,.st b=>match AAj a b with | some ⟨h⟩=>some ⟨by rw [h]⟩ | none=>none
  | _,_=>none
def AAj:(a b:List Ty)→Option (PLift (a=b))
  | [],[]=>some ⟨rfl⟩
  | a :: r,b :: s=>match K5 a b with
    | some ⟨h⟩=>match AAj r s with
      | some ⟨h'⟩=>some ⟨by rw [h,h']⟩
      | none=>none
    | none=>none
  | _,_=>none
end
def Ji (a b:Ty) (x:den a):Option (den b):=match K5 a b with
  | some ⟨h⟩=>some (h ▸ x)
  | none=>none
mutual
def K4:(l:List Ty)→Nat→Xb→Hh l→Dyn→Option (Hh l)
  | [],_,_,_,_=>none
  | t :: _,0,p,x,d=>match setP t p x.1 d with
    | some y=>some (y,x.2)
    | none=>none
  | _ :: r,n+1,p,x,d=>match K4 r n p x.2 d with
    | some y=>some (x.1,y)
    | none=>none
def setP:(t:Ty)→Xb→den t→Dyn→Option (den t)
  | t,[],_,d=>Ji d.τ t d.x
  | .st fs,i :: p,x,d=>K4 fs i p x d
  | .arr _ e,i :: p,x,d=>match setP e p (List.getD x i (dft e)) d with
    | some y=>some (List.set x i y)
    | none=>none
  | _,_ :: _,_,_=>none
end
def Zu:Xb→Xb→Bool
  | [],[]=>true
  | i :: p,j :: q=>Nat.beq i j && Zu p q
  | _,_=>false
inductive SV where
  | dat (τ:Ty) (x:den τ) (ov:List (Xb×Option Nat))
  | ptr (g:Nat) (p:Xb)
  | ref (τ:Ty) (x:den τ)
  | refv (v:SV)
  | selfc (f:FuncId) (caps:List SV)
  | glo (k:Nat)
  | elp (g i:Nat) (p:Xb)
  | clo (f:FuncId) (caps:List SV)
  | tup (vs:List SV)
  | slv (vs:List SV)
  | fmap (ks:List Int) (vs:List SV)
  | agv (vs:List SV)
  | nilfn
  | und
  | junk
inductive Obj where
  | box (τ:Ty) (x:den τ) (ov:List (Xb×Option Nat))
  | boxv (v:SV)
  | fbox (τ:Ty) (x:den τ) (ov:List (Xb×Option Nat))
  | fboxv (v:SV)
  | arr (e:Ty) (l:List (den e))
  | frz (e:Ty) (l:List (den e))
  | map (k v:Ty) (l:List (den k×den v))
  | hid
  | dead
  | none
abbrev Y1:=List Obj
abbrev Xn:=List (Nat×SV)
def Xr:Y1→Nat→Obj
  | [],_=>.none
  | o :: _,0=>o
  | _ :: r,n+1=>Xr r n
def Pi:Y1→Nat→Obj→Y1
  | [],0,o=>[o]
  | [],n+1,o=>.none :: Pi [] n o
  | _ :: r,0,o=>o :: r
  | x :: r,n+1,o=>x :: Pi r n o
def Xw:Xn→Nat→SV
  | [],_=>.junk
  | (i,v) :: r,j=>match Nat.beq i j with | true=>v | false=>Xw r j
def Nb:Xn→Nat→SV→Xn
  | [],j,x=>[(j,x)]
  | (i,v) :: r,j,x=>match Nat.beq i j with | true=>(i,x) :: r | false=>(i,v) :: Nb r j x
def Ma (s:Xn):Option Nat→SV→Xn
  | none,_=>s
  | some d,v=>Nb s d v
def Fe (k:List Nat):Xn→Xn
  | []=>[]
  | (i,v) :: r=>match k.any (Nat.beq i) with | true=>Fe k r | false=>(i,v) :: Fe k r
def Gc:Xb→Xb→Option Xb
  | [],q=>some q
  | i :: p,j :: q=>match Nat.beq i j with | true=>Gc p q | false=>none
  | _ :: _,[]=>none
def J6 (p:Xb):List (Xb×Option Nat)→List (Xb×Option Nat)
  | []=>[]
  | (q,g) :: r=>match Gc p q with | some q'=>(q',g) :: J6 p r | none=>J6 p r
def Oq (p:Xb):List (Xb×Option Nat)→List (Xb×Option Nat)
  | []=>[]
  | (q,g) :: r=>match Gc p q with | some _=>Oq p r | none=>(q,g) :: Oq p r
def Du (p:Xb):List (Xb×Option Nat)→List (Xb×Option Nat)
  | []=>[]
  | (q,g) :: r=>(p ++ q,g) :: Du p r
def AN7:Xb→Xb→Bool
  | [],[]=>false
  | [],_ :: _=>true
  | _ :: _,[]=>false
  | i :: p,j :: q=>Nat.blt i j || Nat.beq i j && AN7 p q
def AF5 (e:Xb×Option Nat):List (Xb×Option Nat)→List (Xb×Option Nat)
  | []=>[e]
  | x :: r=>match AN7 e.1 x.1 with | true=>e :: x :: r | false=>x :: AF5 e r
def M1:List (Xb×Option Nat)→List (Xb×Option Nat)→List (Xb×Option Nat)
  | [],ov=>ov
  | e :: r,ov=>M1 r (AF5 e ov)
def getV:SV→Xb→Option SV
  | v,[]=>some v
  | .agv vs,i :: p=>getVL vs i p
  | _,_ :: _=>none
where getVL:List SV→Nat→Xb→Option SV
  | [],_,_=>none
  | v :: _,0,p=>getV v p
  | _ :: r,n+1,p=>getVL r n p
def resolve (h:Nat→Obj) (τ:Ty) (x:den τ):List (Xb×Option Nat)→Option (den τ)
  | []=>some x
  | (q,some g) :: r=>match h g with
    | .arr e l=>match setP τ q x ⟨.sl e,l⟩ with
      | some y=>resolve h τ y r
      | none=>none
    | .frz e l=>match setP τ q x ⟨.sl e,l⟩ with
      | some y=>resolve h τ y r
      | none=>none
    | _=>none
  | (_,none) :: _=>none
def I3:den (.arr 11 .str):=[(⟨#[]⟩:ByteArray),(⟨#[109,111,118,101]⟩:ByteArray),(⟨#[112,117,115,104]⟩:ByteArray),(⟨#[103,101,116]⟩:ByteArray),(⟨#[100,114,111,112]⟩:ByteArray),(⟨#[112,117,116]⟩:ByteArray),(⟨#[116,97,107,101]⟩:ByteArray),(⟨#[103,105,118,101]⟩:ByteArray),(⟨#[116,114,97,100,101]⟩:ByteArray),(⟨#[108,111,111,107]⟩:ByteArray),(⟨#[111,119,110]⟩:ByteArray)]
def I4:den (.arr 4 .str):=[(⟨#[110,111,114,116,104]⟩:ByteArray),(⟨#[101,97,115,116]⟩:ByteArray),(⟨#[115,111,117,116,104]⟩:ByteArray),(⟨#[119,101,115,116]⟩:ByteArray)]
def Ps:Nat→Option Dyn:=fun k=>match k with
  | 0=>some ⟨(.arr 11 .str),I3⟩
  | 1=>some ⟨(.arr 4 .str),I4⟩
  | _=>none
def AG8 {R:Type} (o:Option Dyn) (M:Nat) (σ:Ty) (K:(l:List (den σ))→Option R):Option R:=match o with
  | some ⟨.arr N e,l⟩=>(match K5 e σ,Nat.beq N M with | some ⟨h⟩,true=>K (h ▸ l) | _,_=>none)
  | _=>none
inductive Opd where
  | t (i:Nat)
  | g (k:Nat)
  | c (τ:Ty) (x:den τ)
  | f (f:FuncId)
  | nf
def evO (s:Nat→SV):Opd→SV
  | .t i=>s i
  | .g k=>.glo k
  | .c τ x=>.dat τ x []
  | .f f=>.clo f []
  | .nf=>.nilfn
inductive Sh where
  | d (τ:Ty)
  | ref (τ:Ty)
  | refv (s:Sh)
  | selfc (f:FuncId) (l:List Sh)
  | clo (f:FuncId) (l:List Sh)
  | nilfn
  | agv (l:List Sh)
  | slv (l:List Sh)
  | fmap (ks:List Int) (l:List Sh)
mutual
@[reducible] def dSh:Sh→Type
  | .d τ=>den τ
  | .ref τ=>den τ
  | .refv s=>dSh s
  | .selfc _ l=>Xd l
  | .clo _ l=>Xd l
  | .nilfn=>Unit
  | .agv l=>Xd l
  | .slv l=>Xd l
  | .fmap _ l=>Xd l
@[reducible] def Xd:List Sh→Type
  | []=>Unit
  | s :: r=>dSh s×Xd r
end
mutual
def inj:(s:Sh)→dSh s→SV
  | .d τ,x=>.dat τ x []
  | .ref τ,x=>.ref τ x
  | .refv s,x=>.refv (inj s x)
  | .selfc f l,x=>.selfc f (Kj l x)
  | .clo f l,x=>.clo f (Kj l x)
  | .nilfn,_=>.nilfn
  | .agv l,x=>.agv (Kj l x)
  | .slv l,x=>.slv (Kj l x)
  | .fmap ks l,x=>.fmap ks (Kj l x)
def Kj:(l:List Sh)→Xd l→List SV
  | [],_=>[]
  | s :: r,x=>inj s x.1 :: Kj r x.2
end
def ABp:List Int→List Int→Bool
  | [],[]=>true
  | a :: r,b :: s=>(a == b) && ABp r s
  | _,_=>false
mutual
def prj:(s:Sh)→SV→Option (dSh s)
  | .d τ,.dat σ x []=>Ji σ τ x
  | .ref τ,.ref σ x=>Ji σ τ x
  | .refv s,.refv v=>prj s v
  | .selfc f l,.selfc g vs=>match Nat.beq f g with | true=>Pg l vs | false=>none
  | .clo f l,.clo g vs=>match Nat.beq f g with | true=>Pg l vs | false=>none
  | .nilfn,.nilfn=>some ()
  | .agv l,.agv vs=>Pg l vs
  | .slv l,.slv vs=>Pg l vs
  | .fmap ks l,.fmap ks' vs=>match ABp ks ks' with | true=>Pg l vs | false=>none
  | _,_=>none
def Pg:(l:List Sh)→List SV→Option (Xd l)
  | [],[]=>some ()
  | s :: r,v :: vs=>match prj s v with
    | some x=>match Pg r vs with
      | some y=>some (x,y)
      | none=>none
    | none=>none
  | _,_=>none
end
inductive LT where
  | d (τ:Ty)
  | v (agg:Bool) (n:Nat)
inductive FT where
  | d (τ:Ty)
  | v (sizes:List Nat)
inductive IT where
  | sl (e:Ty)
  | arr (n:Nat) (e:Ty)
  | slv (n:Nat)
inductive GOp where
  | move (x:Opd)
  | mknil (k:Nat) (e:Ty)
  | pick (c a b:Opd)
  | newbox (k:Nat) (τ:Ty) (nils:List (Xb×Nat))
  | newboxv (k:Nat) (z:SV)
  | box (k:Nat) (x:Opd)
  | load (t:LT) (a:Opd)
  | store (t:LT) (a v:Opd)
  | bin (op:BinOp) (x y:Opd)
  | eqs (τ:Ty) (neg:Bool) (x y:Opd)
  | not (x:Opd)
  | neg (x:Opd)
  | conv (k:IntKind) (x:Opd)
  | fieldAddr (t:FT) (j:Nat) (a:Opd)
  | field (τ:Ty) (j:Nat) (a:Opd)
  | index (t:IT) (x i:Opd)
  | len (x:Opd)
  | lens (x:Opd)
  | slicearr (n:Nat) (e:Ty) (x:Opd)
  | max (xs:List Opd)
  | min (xs:List Opd)
  | build (τ:Ty) (parts:List (Nat×Opd)) (nils:List (Xb×Nat))
  | buildv (sizes:List Nat) (parts:List Opd)
  | slice (k:Nat) (e:Ty) (parts:List Opd)
  | slicev (size:Nat) (parts:List Opd)
  | make (k:Nat) (e:Ty) (n:Opd)
  | append (k:Nat) (e:Ty) (x y:Opd)
  | extract (x:Opd) (i:Nat)
  | func (f:FuncId) (caps:List Opd)
  | mkmap (k:Nat) (κ ν:Ty)
  | lookup (κ ν:Ty) (m i:Opd)
  | lookv (m i:Opd) (ok:Bool)
  | slx (e:Ty) (x:Opd) (lo hi:Option Opd)
  | mapset (κ ν:Ty) (m i v:Opd)
  | mapent (κ ν:Ty) (m i:Opd)
  | mapst (κ ν:Ty) (m e v:Opd)
  | call (f:Opd) (args:List Opd) (res:List Sh) (keep:List ((Nat×Xb)×Nat)) (opt:Bool)
  | fail
abbrev Eff:=List (Nat×Obj)
def R7 (h:Y1):Eff→Y1
  | []=>h
  | (g,o) :: r=>R7 (Pi h g o) r
def AIb {α:Type} (f:α→α→Bool):List α→List α→Bool
  | x :: r,y :: r'=>f x y && AIb f r r'
  | _,_=>true
mutual
def eqT:(t:Ty)→den t→den t→Bool
  | .bool,x,y=>x == y
  | .int _,x,y=>x == y
  | .str,x,y=>x == y
  | .sl _,_,_=>false
  | .arr _ e,x,y=>AIb (eqT e) x y
  | .st fs,x,y=>AC9 fs x y
def AC9:(l:List Ty)→Hh l→Hh l→Bool
  | [],_,_=>true
  | t :: r,x,y=>eqT t x.1 y.1 && AC9 r x.2 y.2
end
mutual
def BJ3:Ty→Bool
  | .sl _=>false
  | .arr _ e=>BJ3 e
  | .st fs=>ATr fs
  | _=>true
def ATr:List Ty→Bool
  | []=>true
  | t :: r=>BJ3 t && ATr r
end
section
variable {R:Type}
def C3 (op:BinOp) (k:IntKind) (x y:Int) (K:SV→Option R):Option R :=
  match op with
  | .add=>K (.dat (.int k) (k.wrap (x+y)) [])
  | .sub=>K (.dat (.int k) (k.wrap (x - y)) [])
  | .mul=>K (.dat (.int k) (k.wrap (x * y)) [])
  | .rem=>if y=0 then none else K (.dat (.int k) (Int.tmod x y) [])
  | .quo=>if y=0 then none else K (.dat (.int k) (k.wrap (Int.tdiv x y)) [])
  | .eql=>K (.dat .bool (decide (x=y)) [])
  | .neq=>K (.dat .bool (!decide (x=y)) [])
  | .lss=>K (.dat .bool (decide (x<y)) [])
  | .leq=>K (.dat .bool (decide (x≤y)) [])
  | .gtr=>K (.dat .bool (decide (y<x)) [])
  | .geq=>K (.dat .bool (decide (y≤x)) [])
  | _=>none
def AJi (op:BinOp) (a b:SV) (K:SV→Option R):Option R :=
  match a,b with
  | .dat (.int k) x _,.dat (.int k') y _=>if k=k' then C3 op k x y K else none
  | _,_=>none
def AM1 (τ:Ty) (neg:Bool) (a b:SV) (K:SV→Option R):Option R :=
  match a,b with
  | .dat σ x [],.dat ρ y []=>match Ji σ τ x,Ji ρ τ y,BJ3 τ with
    | some x,some y,true=>K (.dat .bool (match neg with | true => !(eqT τ x y) | false=>eqT τ x y) [])
    | _,_,_=>none
  | _,_=>none
def E9 (τ:Ty) (x:den τ) (ov:List (Xb×Option Nat)) (p:Xb) (K:SV→Option R):Option R :=
  match getP p τ x with
  | some d=>K (.dat d.τ d.x (J6 p ov))
  | none=>none
mutual
def Jn:SV→Nat
  | .dat τ _ _=>Zi τ
  | .agv vs=>Hm vs
  | _=>1
def Hm:List SV→Nat
  | []=>0
  | v :: r=>Jn v+Hm r
end
def Gu (n:Nat):SV→Bool
  | .junk=>false
  | .und=>false
  | .tup _=>false
  | v=>Nat.beq (Jn v) n
def Rj:List Nat→List SV→Bool
  | [],[]=>true
  | n :: r,v :: s=>Gu n v && Rj r s
  | _,_=>false
def AAe (n:Nat):List SV→Bool
  | []=>true
  | v :: s=>Gu n v && AAe n s
def okL:LT→SV→Bool
  | .d τ,.dat σ _ _=>(match K5 σ τ with | some _=>true | none=>false)
  | .v true n,.agv vs=>Nat.beq (Hm vs) n
  | .v false n,.clo _ _=>Nat.beq n 1
  | .v false n,.nilfn=>Nat.beq n 1
  | _,_=>false
def ABv (ok:Bool) (v:SV) (b:Bool):SV:=match ok with | true=>.tup [v,.dat .bool b []] | false=>v
def Te (n:Int):List Int→List SV→(SV→Bool→Option R)→Option R
  | k :: ks,v :: vs,K=>bif decide (n=k) then K v true else Te n ks vs K
  | _,_,K=>K .nilfn false
def Ii (s:Nat→SV):Option Opd→Int→Option Int
  | none,d=>some d
  | some x,_=>match evO s x with | .dat (.int .i64) n _=>some n | _=>none
def Fh (h:Nat→Obj) (a:SV) (K:SV→Option R):Option R :=
  match a with
  | .ref τ x=>K (.dat τ x [])
  | .refv v=>K v
  | .selfc f vs=>K (.clo f (.selfc f vs :: vs))
  | .glo k=>match Ps k with | some d=>K (.dat d.τ d.x []) | none=>none
  | .ptr g p=>match h g with
    | .box τ x ov=>E9 τ x ov p K
    | .fbox τ x ov=>E9 τ x ov p K
    | .boxv v=>(match getV v p with | some u=>K u | none=>none)
    | .fboxv v=>(match getV v p with | some u=>K u | none=>none)
    | _=>none
  | .elp g i p=>match h g with
    | .arr e l=>E9 e (List.getD l i (dft e)) [] p K
    | .frz e l=>E9 e (List.getD l i (dft e)) [] p K
    | _=>none
  | _=>none
def Fi (t:LT) (h:Nat→Obj) (a:SV) (K:SV→Option R):Option R :=
  Fh h a fun v=>match okL t v with | true=>K v | false=>none
mutual
def Fr:SV→SV→Bool
  | .agv vs,.agv us=>Fs vs us
  | .dat τ _ [],.dat σ _ []=>(match K5 τ σ with | some _=>true | none=>false)
  | .nilfn,.nilfn=>true
  | .nilfn,.clo _ _=>true
  | .clo _ _,.nilfn=>true
  | .clo _ _,.clo _ _=>true
  | _,_=>false
def Fs:List SV→List SV→Bool
  | [],[]=>true
  | v :: r,u :: s=>Fr v u && Fs r s
  | _,_=>false
end
mutual
def AAm:SV→Bool
  | .nilfn=>true
  | .agv vs=>AD4 vs
  | .dat (.int _) x []=>decide (x=(0:Int))
  | .dat .bool x [] => !x
  | _=>false
def AD4:List SV→Bool
  | []=>true
  | v :: r=>AAm v && AD4 r
end
def Oz (h:Nat→Obj) (a v:SV) (K:Eff→Option R):Option R :=
  match a with
  | .ptr g p=>match h g with
    | .box τ x ov=>(match v with
      | .dat σ y ov'=>match setP τ p x ⟨σ,y⟩ with
        | some x'=>K [(g,.box τ x' (M1 (Du p ov') (Oq p ov)))]
        | none=>none
      | _=>none)
    | .boxv u=>(match p,Fr u v with | [],true=>K [(g,.boxv v)] | _,_=>none)
    | _=>none
  | .elp g i p=>match h g with
    | .arr e l=>(match v with
      | .dat σ y []=>match setP e p (List.getD l i (dft e)) ⟨σ,y⟩ with
        | some y'=>K [(g,.arr e (List.set l i y'))]
        | none=>none
      | _=>none)
    | _=>none
  | _=>none
def inB (n:Int) (m:Nat) (K:Nat→Option R):Option R:=if 0≤n∧n<(m:Int) then K n.toNat else none
def Yj (h:Nat→Obj) (t:FT) (j:Nat) (a:SV) (K:SV→Option R):Option R :=
  match t with
  | .d σ=>(match σ with
    | .st fs=>bif Nat.blt j fs.length then (match a with
      | .ptr g p=>(match h g with
        | .box τ x _=>fld τ x p σ (K (.ptr g (p ++ [j])))
        | .fbox τ x _=>fld τ x p σ (K (.ptr g (p ++ [j])))
        | _=>none)
      | .elp g i p=>(match h g with
        | .arr e _=>fld e (dft e) p σ (K (.elp g i (p ++ [j])))
        | .frz e _=>fld e (dft e) p σ (K (.elp g i (p ++ [j])))
        | _=>none)
      | .ref τ x=>(match K5 τ σ,getP [j] τ x with | some _,some d=>K (.ref d.τ d.x) | _,_=>none)
      | _=>none) else none
    | _=>none)
  | .v sizes=>(match a with
    | .refv (.agv vs)=>(match natsEq (sizesV vs) sizes,vs[j]? with | true,some v=>K (.refv v) | _,_=>none)
    | .ptr g p=>(match h g with
      | .boxv u=>fldV u p sizes j (K (.ptr g (p ++ [j])))
      | .fboxv u=>fldV u p sizes j (K (.ptr g (p ++ [j])))
      | _=>none)
    | _=>none)
where
  fld (τ:Ty) (x:den τ) (p:Xb) (σ:Ty) (r:Option R):Option R:=match getP p τ x with
    | some d=>(match K5 d.τ σ with | some _=>r | none=>none)
    | none=>none
  sizesV:List SV→List Nat
    | []=>[]
    | v :: r=>Jn v :: sizesV r
  natsEq:List Nat→List Nat→Bool
    | [],[]=>true
    | a :: r,b :: s=>Nat.beq a b && natsEq r s
    | _,_=>false
  fldV (u:SV) (p:Xb) (sizes:List Nat) (j:Nat) (r:Option R):Option R:=match getV u p with
    | some (.agv vs)=>bif natsEq (sizesV vs) sizes && Nat.blt j sizes.length then r else none
    | _=>none
def Ur (t:IT) (h:Nat→Obj) (x i:SV) (K:SV→Option R):Option R :=
  match i with
  | .dat (.int _) n _=>(match t with
    | .sl σ=>(match x with
      | .dat (.sl e) l []=>(match K5 e σ with | some _=>inB n (List.length l) fun j=>K (.ref e (List.getD l j (dft e))) | none=>none)
      | .dat (.sl _) _ [([],some g)]=>(match h g with
        | .arr e l=>(match K5 e σ with | some _=>inB n l.length fun j=>K (.elp g j []) | none=>none)
        | .frz e l=>(match K5 e σ with | some _=>inB n l.length fun j=>K (.elp g j []) | none=>none)
        | _=>none)
      | _=>none)
    | .arr M σ=>(match x with
      | .ref (.arr N e) l=>(match K5 e σ,Nat.beq N M with | some _,true=>inB n N fun j=>K (.ref e (List.getD l j (dft e))) | _,_=>none)
      | .ptr g p=>(match h g with
        | .box τ x _=>arrAt τ x p M σ n fun j=>K (.ptr g (p ++ [j]))
        | .fbox τ x _=>arrAt τ x p M σ n fun j=>K (.ptr g (p ++ [j]))
        | _=>none)
      | _=>none)
    | .slv sz=>(match x with
      | .slv vs=>(match n with
        | .ofNat j=>(match vs[j]? with | some v=>(match Nat.beq (Jn v) sz with | true=>K (.refv v) | false=>none) | none=>none)
        | _=>none)
      | _=>none))
  | _=>none
where
  arrAt (τ:Ty) (x:den τ) (p:Xb) (M:Nat) (σ:Ty) (n:Int) (K:Nat→Option R):Option R:=match getP p τ x with
    | some ⟨.arr N e,_⟩=>(match K5 e σ,Nat.beq N M with | some _,true=>inB n N K | _,_=>none)
    | _=>none
def ADm (h:Nat→Obj) (x:SV) (K:SV→Option R):Option R :=
  match x with
  | .dat (.sl _) l []=>K (.dat (.int .i64) ((List.length l:Nat):Int) [])
  | .dat (.sl _) _ [([],some g)]=>(match h g with
    | .arr _ l=>K (.dat (.int .i64) ((List.length l:Nat):Int) [])
    | .frz _ l=>K (.dat (.int .i64) ((List.length l:Nat):Int) [])
    | _=>none)
  | .slv vs=>K (.dat (.int .i64) ((List.length vs:Nat):Int) [])
  | _=>none
def Tz (τ:Ty) (s:Nat→SV):(x:den τ)→(ov:List (Xb×Option Nat))→List (Nat×Opd)→(SV→Option R)→Option R
  | x,ov,[],K=>K (.dat τ x ov)
  | x,ov,(j,o) :: r,K=>match evO s o with
    | .dat σ y ov'=>match setP τ [j] x ⟨σ,y⟩ with
      | some x'=>Tz τ s x' (Oq [j] ov ++ Du [j] ov') r K
      | none=>none
    | _=>none
def R2 (τ:Ty) (x:den τ) (h:Nat→Obj):List (Xb×Nat)→Option (List (Xb×Option Nat)×Eff)
  | []=>some ([],[])
  | (p,k) :: r=>match h k,getP p τ x,r.any (fun q=>Nat.beq q.2 k || Zu q.1 p),R2 τ x h r with
    | .none,some ⟨.sl e,_⟩,false,some (ov,es)=>some ((p,some k) :: ov,(k,.arr e []) :: es)
    | _,_,_,_=>none
def Ta (e:Ty) (s:Nat→SV):List Opd→Option (List (den e))
  | []=>some []
  | o :: r=>match evO s o with
    | .dat σ y []=>match Ji σ e y with
      | some z=>match Ta e s r with
        | some zs=>some (z :: zs)
        | none=>none
      | none=>none
    | _=>none
end
mutual
def noSl:Ty→Bool
  | .sl _=>false
  | .arr _ e=>noSl e
  | .st fs=>AI0 fs
  | _=>true
def AI0:List Ty→Bool
  | []=>true
  | t :: r=>noSl t && AI0 r
end
def L9:List Sh→Bool
  | []=>true
  | .d τ :: r=>noSl τ && L9 r
  | _ :: _=>false
def P0:List (Xb×Option Nat)→List Nat
  | []=>[]
  | (_,some g) :: r=>g :: P0 r
  | (_,none) :: r=>P0 r
def AAd (g:Nat):Xb→SV→Option (FuncId×List SV)
  | [],.clo f (.ptr g' [] :: caps)=>match Nat.beq g g' with | true=>some (f,caps) | false=>none
  | _,_=>none
mutual
def Qb (h:Nat→Obj):Nat→SV→Option (SV×List Nat)
  | 0,_=>none
  | n+1,v=>match v with
    | .dat τ x ov=>match resolve h τ x ov with
      | some y=>some (.dat τ y [],P0 ov)
      | none=>none
    | .ptr g p=>match h g with
      | .box τ x ov=>match resolve h τ x ov with
        | some y=>match getP p τ y with
          | some d=>some (.ref d.τ d.x,g :: P0 ov)
          | none=>none
        | none=>none
      | .fbox τ x ov=>match resolve h τ x ov with
        | some y=>match getP p τ y with
          | some d=>some (.ref d.τ d.x,g :: P0 ov)
          | none=>none
        | none=>none
      | .boxv v=>match AAd g p v with
        | some (f,caps)=>match Wp h n caps with
          | some (us,ids)=>some (.selfc f us,g :: ids)
          | none=>none
        | none=>match getV v p with
          | some v=>match Qb h n v with
            | some (u,ids)=>some (.refv u,g :: ids)
            | none=>none
          | none=>none
      | .fboxv v=>match AAd g p v with
        | some (f,caps)=>match Wp h n caps with
          | some (us,ids)=>some (.selfc f us,g :: ids)
          | none=>none
        | none=>match getV v p with
          | some v=>match Qb h n v with
            | some (u,ids)=>some (.refv u,g :: ids)
            | none=>none
          | none=>none
      | _=>none
    | .ref τ x=>some (.ref τ x,[])
    | .refv v=>match Qb h n v with | some (u,ids)=>some (.refv u,ids) | none=>none
    | .selfc f caps=>match Wp h n caps with | some (us,ids)=>some (.selfc f us,ids) | none=>none
    | .clo f caps=>match Wp h n caps with | some (us,ids)=>some (.clo f us,ids) | none=>none
    | .agv vs=>match Wp h n vs with | some (us,ids)=>some (.agv us,ids) | none=>none
    | .slv vs=>match Wp h n vs with | some (us,ids)=>some (.slv us,ids) | none=>none
    | .nilfn=>some (.nilfn,[])
    | _=>none
def Wp (h:Nat→Obj):Nat→List SV→Option (List SV×List Nat)
  | 0,_=>none
  | _+1,[]=>some ([],[])
  | n+1,v :: vs=>match Qb h n v with
    | some (u,ids)=>match Wp h n vs with
      | some (us,ids')=>some (u :: us,ids ++ ids')
      | none=>none
    | none=>none
end
def Ql (h:Nat→Obj):List Nat→Option Eff
  | []=>some []
  | g :: r=>match h g with
    | .arr e l=>match Ql h r with | some es=>some ((g,.frz e l) :: es) | none=>none
    | .frz _ _=>Ql h r
    | .box τ x ov=>match Ql h r with | some es=>some ((g,.fbox τ x ov) :: es) | none=>none
    | .boxv v=>match Ql h r with | some es=>some ((g,.fboxv v) :: es) | none=>none
    | .fbox .. => Ql h r
    | .fboxv _=>Ql h r
    | _=>none
abbrev Z0:=List (Nat×Xb)
def Zl (fr:Z0) (k:Nat×Xb):Bool:=fr.any fun f=>Nat.beq f.1 k.1 && Zu f.2 k.2
def Zq (fr:Z0):List ((Nat×Xb)×Nat)→Bool
  | []=>true
  | (k,_) :: r=>Zl fr k && !(r.any fun q=>Nat.beq q.1.1 k.1 && Zu q.1.2 k.2) && Zq fr r
def T6:List SV→List ((Nat×Xb)×Nat)→Option (List SV×Eff)
  | vs,[]=>some (vs,[])
  | vs,((i,p),k) :: r=>match vs[i]? with
    | some (.dat τ x ov)=>match getP p τ x with
      | some ⟨.sl e,l⟩=>match setP τ p x ⟨.sl e,[]⟩ with
        | some x'=>match T6 (vs.set i (.dat τ x' (ov ++ [(p,some k)]))) r with
          | some (us,es)=>some (us,(k,.arr e l) :: es)
          | none=>none
        | none=>none
      | _=>none
    | _=>none
section
variable {R:Type}
def Nj:List SV→SV
  | [v]=>v
  | vs=>.tup vs
def Yy (κ ν:Ty) (i:den κ):List (den κ×den ν)→Option (den ν)
  | []=>none
  | (k,v) :: r=>if eqT κ i k then some v else Yy κ ν i r
def Hy (κ ν:Ty) (i:den κ) (x:den ν):List (den κ×den ν)→List (den κ×den ν)
  | []=>[(i,x)]
  | (k,v) :: r=>if eqT κ i k then (i,x) :: r else (k,v) :: Hy κ ν i x r
def Ds (κ ν:Ty) (i:den κ):List (den κ×den ν)→Nat
  | []=>0
  | (k,_) :: r=>if eqT κ i k then 0 else Ds κ ν i r+1
def Pe (κ ν:Ty) (i:den κ) (l:List (den κ×den ν)):List (den κ×den ν):=match Yy κ ν i l with
  | some _=>l
  | none=>l ++ [(i,dft ν)]
def N3 (κ ν:Ty):Nat→den ν→List (den κ×den ν)→List (den κ×den ν)
  | _,_,[]=>[]
  | 0,x,(k,_) :: r=>(k,x) :: r
  | n+1,x,e :: r=>e :: N3 κ ν n x r
def Tc (s:Nat→SV):List Opd→Option (IntKind×List Int)
  | []=>none
  | [o]=>match evO s o with | .dat (.int k) n _=>some (k,[n]) | _=>none
  | o :: r=>match evO s o with
    | .dat (.int k) n _=>match Tc s r with
      | some (k',l)=>if k=k' then some (k,n :: l) else none
      | none=>none
    | _=>none
abbrev Calls:=FuncId→List SV→(res:List Sh)→Option (Xd res×Z0)
def Hr (h:Nat→Obj):List ((Nat×Xb)×Nat)→Bool
  | []=>true
  | (_,k) :: r=>(match h k with | .none=>true | _=>false) && Hr h r && !(r.any fun q=>Nat.beq q.2 k)
def Lc (h:Nat→Obj) (ids:List Nat) (res:List Sh) (x:Xd res) (keep:List ((Nat×Xb)×Nat)) (K:SV→Eff→Option R):Option R :=
  match (match L9 res,keep with | true,[]=>some [] | _,_=>Ql h ids) with
  | some es=>(match T6 (Kj res x) keep with
    | some (vs,es')=>K (Nj vs) (es ++ es')
    | none=>none)
  | none=>none
def Pq (cf:Calls) (h:Nat→Obj) (f:SV) (args:List SV) (res:List Sh) (keep:List ((Nat×Xb)×Nat)) (opt:Bool) (K:SV→Eff→Option R):Option R :=
  match f with
  | .clo fid caps=>match Wp h 60 (args ++ caps) with
    | some (as,ids)=>(cf fid as res).bind fun r =>
        bif Zq r.2 keep then (bif Hr h keep then Lc h ids res r.1 keep K else none)
        else (match opt with | true=>Lc h ids res r.1 [] K | false=>none)
    | none=>none
  | .refv _=>none
  | _=>none
def gop (cf:Calls) (s:Nat→SV) (h:Nat→Obj) (o:GOp) (K:SV→Eff→Option R):Option R :=
  match o with
  | .move x=>K (evO s x) []
  | .mknil k e=>match h k with
    | .none=>K (.dat (.sl e) [] [([],some k)]) [(k,.arr e [])]
    | _=>none
  | .pick c a b=>match evO s c with
    | .dat .bool t _=>(match evO s a,evO s b with
      | .dat .bool x _,.dat .bool y _=>K (.dat .bool (bif t then x else y) []) []
      | .dat .bool x _,.und=>bif t then K (.dat .bool x []) [] else none
      | .und,.dat .bool y _=>bif t then none else K (.dat .bool y []) []
      | _,_=>none)
    | _=>none
  | .newbox k τ nils=>match h k,R2 τ (dft τ) h nils,nils.any (fun q=>Nat.beq q.2 k) with
    | .none,some (ov,es),false=>K (.ptr k []) ((k,.box τ (dft τ) ov) :: es)
    | _,_,_=>none
  | .newboxv k z=>match h k,AAm z with
    | .none,true=>K (.ptr k []) [(k,.boxv z)]
    | _,_=>none
  | .box k x=>match h k with
    | .none=>(match evO s x with
      | .dat τ x ov=>K (.ptr k []) [(k,.box τ x ov)]
      | .clo f caps=>K (.ptr k []) [(k,.boxv (.clo f caps))]
      | _=>none)
    | _=>none
  | .load t a=>Fi t h (evO s a) fun v=>K v []
  | .store t a v=>(match okL t (evO s v) with | true=>Oz h (evO s a) (evO s v) fun e=>K .junk e | false=>none)
  | .bin op x y=>AJi op (evO s x) (evO s y) fun v=>K v []
  | .eqs τ neg x y=>AM1 τ neg (evO s x) (evO s y) fun v=>K v []
  | .not x=>match evO s x with | .dat .bool b _=>K (.dat .bool (!b) []) [] | _=>none
  | .neg x=>match evO s x with | .dat (.int k) n _=>K (.dat (.int k) (k.wrap (0 - n)) []) [] | _=>none
  | .conv k x=>match evO s x with | .dat (.int _) n _=>K (.dat (.int k) (k.wrap n) []) [] | _=>none
  | .fieldAddr t j a=>Yj h t j (evO s a) fun v=>K v []
  | .field τ j a=>match evO s a with
    | .dat σ x ov=>(match K5 σ τ with | some _=>E9 σ x ov [j] fun v=>K v [] | none=>none)
    | _=>none
  | .index t x i=>Ur t h (evO s x) (evO s i) fun v=>K v []
  | .len x=>ADm h (evO s x) fun v=>K v []
  | .lens x=>match evO s x with
    | .dat .str y _=>K (.dat (.int .i64) ((ByteArray.size y:Nat):Int) []) []
    | _=>none
  | .max xs=>match Tc s xs with | some (k,n :: l)=>K (.dat (.int k) (l.foldl (fun a b=>if a<b then b else a) n) []) [] | _=>none
  | .min xs=>match Tc s xs with | some (k,n :: l)=>K (.dat (.int k) (l.foldl (fun a b=>if b<a then b else a) n) []) [] | _=>none
  | .build τ parts nils=>match R2 τ (dft τ) h nils with
    | some (ov,es)=>Tz τ s (dft τ) ov parts fun v=>K v es
    | none=>none
  | .buildv sizes parts=>match Rj sizes (parts.map (evO s)) with | true=>K (.agv (parts.map (evO s))) [] | false=>none
  | .slice k e parts=>match h k,Ta e s parts with
    | .none,some l=>K (.dat (.sl e) [] [([],some k)]) [(k,.arr e l)]
    | _,_=>none
  | .slicev n parts=>match AAe n (parts.map (evO s)) with | true=>K (.slv (parts.map (evO s))) [] | false=>none
  | .make k e n=>match h k,evO s n with
    | .none,.dat (.int _) n _=>if 0≤n∧n≤1048576 then K (.dat (.sl e) [] [([],some k)]) [(k,.arr e (List.replicate n.toNat (dft e)))] else none
    | _,_=>none
  | .append k e x y=>match evO s x,evO s y,h k with
    | .dat (.sl e0) _ [([],some g)],.dat σ l' ov',.none=>(match h g with
      | .arr e1 l=>(match K5 e0 e,K5 e1 e,resolve h σ l' ov' with
        | some _,some _,some l'=>(match Ji σ (.sl e1) l' with
          | some l'=>if List.length l+List.length l'≤1048576 then K (.dat (.sl e) [] [([],some k)]) [(g,.dead),(k,.arr e1 (l ++ l'))] else none
          | none=>none)
        | _,_,_=>none)
      | _=>none)
    | _,_,_=>none
  | .extract x i=>match evO s x with | .tup vs=>(match vs[i]? with | some v=>K v [] | none=>none) | _=>none
  | .func f caps=>K (.clo f (caps.map (evO s))) []
  | .mkmap k κ ν=>match h k with
    | .none=>K (.ptr k []) [(k,.map κ ν [])]
    | _=>none
  | .lookup κ0 ν0 m i=>match evO s m,evO s i with
    | .ptr g [],.dat σ y []=>(match h g with
      | .map κ ν l=>(match Ji σ κ y,K5 κ κ0,K5 ν ν0 with
        | some i,some _,some _=>K (.dat ν ((Yy κ ν i l).getD (dft ν)) []) []
        | _,_,_=>none)
      | _=>none)
    | _,_=>none
  | .mapset κ0 ν0 m i v=>match evO s m,evO s i,evO s v with
    | .ptr g [],.dat σ y [],.dat ρ z []=>(match h g with
      | .map κ ν l=>(match Ji σ κ y,Ji ρ ν z,K5 κ κ0,K5 ν ν0 with
        | some i,some x,some _,some _=>K .junk [(g,.map κ ν (Hy κ ν i x l))]
        | _,_,_,_=>none)
      | _=>none)
    | _,_,_=>none
  | .mapent κ0 ν0 m i=>match evO s m,evO s i with
    | .ptr g [],.dat σ y []=>(match h g with
      | .map κ ν l=>(match Ji σ κ y,K5 κ κ0,K5 ν ν0 with
        | some i,some _,some _=>K (.tup [.dat ν ((Yy κ ν i l).getD (dft ν)) [],.dat (.int .i64) ((Ds κ ν i l:Nat):Int) []]) [(g,.map κ ν (Pe κ ν i l))]
        | _,_,_=>none)
      | _=>none)
    | _,_=>none
  | .mapst κ0 ν0 m e v=>match evO s m,evO s e,evO s v with
    | .ptr g [],.dat (.int .i64) n _,.dat ρ z []=>(match h g with
      | .map κ ν l=>(match Ji ρ ν z,K5 κ κ0,K5 ν ν0 with
        | some x,some _,some _=>if (0:Int)≤n∧n<((List.length l:Nat):Int) then K .junk [(g,.map κ ν (N3 κ ν (Int.toNat n) x l))] else none
        | _,_,_=>none)
      | _=>none)
    | _,_,_=>none
  | .lookv m i ok=>match evO s m,evO s i with
    | .fmap ks vs,.dat (.int .i64) n []=>Te n ks vs fun v b=>K (ABv ok v b) []
    | _,_=>none
  | .slx e x lo hi=>match evO s x with
    | .dat (.sl _) _ [([],some g)]=>(match h g with
      | .frz e1 l=>(match K5 e1 e,Ii s lo 0,Ii s hi ((List.length l:Nat):Int) with
        | some _,some a,some b=>if 0≤a∧a≤b∧b≤((List.length l:Nat):Int) then K (.dat (.sl e1) ((l.take b.toNat).drop a.toNat) []) [] else none
        | _,_,_=>none)
      | _=>none)
    | _=>none
  | .call f args res keep opt=>Pq cf h (evO s f) (args.map (evO s)) res keep opt K
  | .fail=>none
  | .slicearr M σ x=>match evO s x with
    | .glo k=>AG8 (Ps k) M σ fun l=>K (.dat (.sl σ) l []) []
    | .ptr g []=>(match h g with
      | .box (.arr N e) l []=>(match K5 e σ,Nat.beq N M with | some _,true=>K (.dat (.sl e) l []) [(g,.dead)] | _,_=>none)
      | _=>none)
    | _=>none
structure Ln where
  d:Option Nat
  op:GOp
  g:Option (Nat×Bool):=none
  rd:List Nat:=[]
  wr:List Nat:=[]
inductive Cd where
  | skip
  | reg (draw:Bool) (l:List Ln)
  | tidy (kill:List Nat) (mv:List (Nat×Nat)) (drop:List Nat) (trunc:Option Nat)
  | frz (ids:List Nat)
  | seq (a b:Cd)
  | cond (c:Opd) (a b:Cd)
  | block (id:Nat) (a:Cd)
  | loop (a:Cd)
  | exit (id:Nat)
  | ret
inductive Ex where
  | norm | exit (id:Nat) | ret
def Ai (ids:List Nat) (h:Nat→Obj):Nat→Obj:=fun g=>match ids.any (Nat.beq g) with | true=>h g | false=>.hid
def AA8 (wr:List Nat):Eff→Bool
  | []=>true
  | (g,_) :: r=>wr.any (Nat.beq g) && AA8 wr r
def Ao (cf:Calls) (draw:Bool) (l:Ln) (s:Xn) (h:Y1) (K:Xn→Y1→Option R):Option R :=
  match draw with
  | false=>gop cf (Xw s) (Xr h) l.op fun v e=>K (Ma s l.d v) (R7 h e)
  | true=>gop cf (Xw s) (Ai (l.rd ++ l.wr) (Xr h)) l.op fun v e=>match AA8 l.wr e with
    | true=>K (Ma s l.d v) (R7 h e)
    | false=>none
def Y9 (cf:Calls) (draw:Bool):List Ln→Xn→Y1→(Xn→Y1→Option R)→Option R
  | [],s,h,K=>K s h
  | l :: r,s,h,K=>match l.g with
    | none=>Ao cf draw l s h fun s h=>Y9 cf draw r s h K
    | some (j,true)=>(match Xw s j with
      | .dat .bool b []=>bif b then Ao cf draw l (Nb s j (.dat .bool true [])) h fun s h=>Y9 cf draw r s h K
          else Y9 cf draw r (Ma (Nb s j (.dat .bool false [])) l.d .und) h K
      | .und=>Y9 cf draw r (Ma s l.d .und) h K
      | _=>none)
    | some (j,false)=>(match Xw s j with
      | .dat .bool b []=>bif b then Y9 cf draw r (Ma (Nb s j (.dat .bool true [])) l.d .und) h K
          else Ao cf draw l (Nb s j (.dat .bool false [])) h fun s h=>Y9 cf draw r s h K
      | .und=>Y9 cf draw r (Ma s l.d .und) h K
      | _=>none)
def Ui (p:Nat→Bool):List (Xb×Option Nat)→Bool
  | []=>true
  | (_,some g) :: r=>p g && Ui p r
  | (_,none) :: r=>Ui p r
mutual
def Uy (p:Nat→Bool):SV→Bool
  | .dat _ _ ov=>Ui p ov
  | .ptr g _=>p g
  | .ref _ _=>true
  | .refv v=>Uy p v
  | .selfc _ caps=>Nf p caps
  | .glo _=>true
  | .elp g _ _=>p g
  | .clo _ caps=>Nf p caps
  | .tup vs=>Nf p vs
  | .slv vs=>Nf p vs
  | .fmap _ vs=>Nf p vs
  | .agv vs=>Nf p vs
  | .nilfn=>true
  | .und=>true
  | .junk=>true
def Nf (p:Nat→Bool):List SV→Bool
  | []=>true
  | v :: r=>Uy p v && Nf p r
end
def AEa (p:Nat→Bool):Obj→Bool
  | .box _ _ ov=>Ui p ov
  | .boxv v=>Uy p v
  | .fbox _ _ ov=>Ui p ov
  | .fboxv v=>Uy p v
  | _=>true
def Lb (p:Nat→Bool):Xn→Bool
  | []=>true
  | (_,v) :: r=>Uy p v && Lb p r
def La (p:Nat→Bool):Y1→Bool
  | []=>true
  | o :: r=>AEa p o && La p r
def neI (n g:Nat):Bool:=match Nat.beq g n with | true=>false | false=>true
def ltI (n g:Nat):Bool:=Nat.blt g n
def AAx (a b g:Nat):Nat:=match Nat.beq g a with | true=>b | false=>g
def Kz (f:Nat→Nat):List (Xb×Option Nat)→List (Xb×Option Nat)
  | []=>[]
  | (q,some g) :: r=>(q,some (f g)) :: Kz f r
  | (q,none) :: r=>(q,none) :: Kz f r
mutual
def Vk (f:Nat→Nat):SV→SV
  | .dat τ x ov=>.dat τ x (Kz f ov)
  | .ptr g p=>.ptr (f g) p
  | .ref τ x=>.ref τ x
  | .refv v=>.refv (Vk f v)
  | .selfc c caps=>.selfc c (Kh f caps)
  | .glo k=>.glo k
  | .elp g i p=>.elp (f g) i p
  | .clo c caps=>.clo c (Kh f caps)
  | .tup vs=>.tup (Kh f vs)
  | .slv vs=>.slv (Kh f vs)
  | .fmap ks vs=>.fmap ks (Kh f vs)
  | .agv vs=>.agv (Kh f vs)
  | .nilfn=>.nilfn
  | .und=>.und
  | .junk=>.junk
def Kh (f:Nat→Nat):List SV→List SV
  | []=>[]
  | v :: r=>Vk f v :: Kh f r
end
def Us (f:Nat→Nat):Obj→Obj
  | .box τ x ov=>.box τ x (Kz f ov)
  | .boxv v=>.boxv (Vk f v)
  | .fbox τ x ov=>.fbox τ x (Kz f ov)
  | .fboxv v=>.fboxv (Vk f v)
  | o=>o
def AFy (f:Nat→Nat):Xn→Xn
  | []=>[]
  | (i,v) :: r=>(i,Vk f v) :: AFy f r
def AN2 (s:Xn) (h:Y1) (a b:Nat) (K:Xn→Y1→Option R):Option R :=
  match Xr h a with
  | .none=>K s h
  | _=>match Lb (neI b) s && La (neI b) h && !(Nat.beq a b) with
  | true=>K (AFy (AAx a b) s) (Pi (Pi (h.map (Us (AAx a b))) b (Xr (h.map (Us (AAx a b))) a)) a .none)
  | false=>none
def Lz:List (Nat×Nat)→Xn→Y1→(Xn→Y1→Option R)→Option R
  | [],s,h,K=>K s h
  | (a,b) :: r,s,h,K=>AN2 s h a b fun s h=>Lz r s h K
def Nr:List Nat→Xn→Y1→(Xn→Y1→Option R)→Option R
  | [],s,h,K=>K s h
  | g :: r,s,h,K=>match Xr h g with
    | .none=>Nr r s h K
    | _=>match Lb (neI g) s && La (neI g) h with
      | true=>Nr r s (Pi h g .none) K
      | false=>none
def Dc (n:Option Nat) (s:Xn) (h:Y1) (K:Xn→Y1→Option R):Option R :=
  match n with
  | none=>K s h
  | some n=>match Lb (ltI n) s && La (ltI n) (h.take n) with
    | true=>K s (h.take n)
    | false=>none
abbrev Kt (R:Type):=Ex→Xn→Y1→Option R
def Rw (body:Kt R→Kt R→Xn→Y1→Option R):Nat→Kt R→Xn→Y1→Option R
  | 0,_,_,_=>none
  | m+1,K,s,h=>body (fun _ s h=>Rw body m K s h) K s h
def Q9 (run:Cd→Kt R→Kt R→Xn→Y1→Option R) (b:Cd) (Kn K:Kt R):Kt R:=fun _ s h=>run b Kn K s h
def Jg (id:Nat) (Kn K:Kt R):Kt R:=fun ex s h=>match ex with
  | .exit i=>(match Nat.beq i id with | true=>Kn .norm s h | false=>K (.exit i) s h)
  | ex=>K ex s h
def run (cf:Calls) (lp:Nat):Cd→Kt R→Kt R→Xn→Y1→Option R
  | .skip,Kn,_,s,h=>Kn .norm s h
  | .reg draw l,Kn,_,s,h=>Y9 cf draw l s h fun s h=>Kn .norm s h
  | .tidy kill mv dr tr,Kn,_,s,h=>Lz mv (Fe kill s) h fun s h=>Nr dr s h fun s h=>Dc tr s h fun s h=>Kn .norm s h
  | .frz ids,Kn,_,s,h=>match Ql (Xr h) ids with
    | some es=>Kn .norm s (R7 h es)
    | none=>none
  | .seq a b,Kn,K,s,h=>run cf lp a (fun _ s h=>run cf lp b Kn K s h) K s h
  | .cond c a b,Kn,K,s,h=>match evO (Xw s) c with
    | .dat .bool t _=>bif t then run cf lp a Kn K s h else run cf lp b Kn K s h
    | _=>none
  | .block id a,Kn,K,s,h=>run cf lp a Kn (Jg id Kn K) s h
  | .loop a,_,K,s,h=>Rw (fun Kn K s h=>run cf lp a Kn K s h) lp K s h
  | .exit id,_,K,s,h=>K (.exit id) s h
  | .ret,_,K,s,h=>K .ret s h
inductive RV where
  | tmp (t:Nat)
  | cell (t:Nat) (l:LT)
structure Fn where
  np:Nat
  res:List RV
  body:Cd
def Po:Nat→List SV→Xn
  | _,[]=>[]
  | i,v :: r=>(i,v) :: Po (i+1) r
def Kl:Xb→Ty→Bool
  | [],.sl _=>true
  | i :: p,.st fs=>(match fs[i]? with | some t=>Kl p t | none=>false)
  | _,_=>false
def N9 (τ:Ty):List (Xb×Option Nat)→Bool
  | []=>true
  | (q,_) :: r=>Kl q τ && !(r.any fun e=>Zu e.1 q) && N9 τ r
def Hz (s:Nat→SV) (h:Nat→Obj):RV→Option (SV×List (Xb×Nat)×List Nat)
  | .tmp t=>resFin h (s t)
  | .cell t l=>Fi l h (s t) fun v=>resFin h v
where
  resFin (h:Nat→Obj) (v:SV):Option (SV×List (Xb×Nat)×List Nat):=match v with
    | .dat τ x ov=>match resolve h τ x ov with
      | some y=>(match N9 τ ov with | true=>some (.dat τ y [],ovOwn h ov,[]) | false=>some (.dat τ y [],[],P0 ov))
      | none=>none
    | v=>match Qb h 60 v with | some (u,ids)=>some (u,[],ids) | none=>none
  ovOwn (h:Nat→Obj):List (Xb×Option Nat)→List (Xb×Nat)
    | []=>[]
    | (q,some g) :: r=>(match h g with | .arr _ _=>(q,g) :: ovOwn h r | _=>ovOwn h r)
    | (_,none) :: r=>ovOwn h r
def resAll (s:Nat→SV) (h:Nat→Obj):Nat→List RV→Option (List SV×List ((Nat×Xb)×Nat)×List Nat)
  | _,[]=>some ([],[],[])
  | i,r :: rs=>match Hz s h r with
    | some (v,o,l)=>match resAll s h (i+1) rs with
      | some (vs,os,ls)=>some (v :: vs,o.map (fun q=>((i,q.1),q.2)) ++ os,l ++ ls)
      | none=>none
    | none=>none
def Py:List ((Nat×Xb)×Nat)→Bool
  | []=>true
  | (_,g) :: r => !(r.any fun q=>Nat.beq q.2 g) && Py r
def Tr:List ((Nat×Xb)×Nat)→Bool
  | []=>true
  | (k,_) :: r => !(r.any fun q=>Nat.beq q.1.1 k.1 && Zu q.1.2 k.2) && Tr r
def Oh (o:List ((Nat×Xb)×Nat)) (l:List Nat):Z0:=match Py o && Tr o && o.all (fun q => !(l.any (Nat.beq q.2))) with
  | true=>o.map (·.1)
  | false=>[]
def Xi (fn:Fn) (res:List Sh):Kt (Xd res×Z0):=fun ex s h =>
  match ex with
  | .exit _=>none
  | _=>match resAll (Xw s) (Xr h) 0 fn.res with
  | some (vs,o,l)=>match Pg res vs with
    | some x=>some (x,Oh o l)
    | none=>none
  | none=>none
def K9 (prog:FuncId→Option Fn) (sp:Calls):Nat→Calls
  | 0,_,_,_=>none
  | n+1,f,as,res=>match prog f with
    | some fn=>match Nat.beq as.length fn.np with
      | true=>run (K9 prog sp n) n fn.body (Xi fn res) (Xi fn res) (Po 0 as) []
      | false=>none
    | none=>sp f as res
end
end Go.Proofs.YtmemggdjnfccfaaGreatDoor.Ghost
namespace Go.Proofs.YtmemggdjnfccfaaGreatDoor.Ghost
open Go
mutual
def Jm:Ty→Xb→Nat
  | .st fs,i :: p=>Ub fs i p
  | .arr _ e,i :: p=>i * Zi e+Jm e p
  | _,_=>0
def Ub:List Ty→Nat→Xb→Nat
  | [],_,_=>0
  | t :: _,0,p=>Jm t p
  | t :: r,n+1,p=>Zi t+Ub r n p
end
mutual
def okP:Ty→Xb→Prop
  | _,[]=>True
  | .st fs,i :: p=>okF fs i p
  | .arr n e,i :: p=>i<n∧okP e p
  | _,_=>False
def okF:List Ty→Nat→Xb→Prop
  | [],_,_=>False
  | t :: _,0,p=>okP t p
  | _ :: r,n+1,p=>okF r n p
end
structure He where
  b:Nat
  len:Nat
  cap:Nat
  es:Nat
  mp:Bool
  off:Xb→Nat
  ok:Xb→Prop
abbrev Xk:=Nat→Option He
abbrev Ov:=List (Xb×Option Nat)
def Tv (ρ:Xk) (g:Nat) (v:Value):Prop :=
  ∃ s a,ρ g=some s∧s.mp=false∧v=.slice a s.len s.cap∧(0<s.cap→a=some ⟨s.b,0,none⟩)
mutual
def Zp (A:Nat→Prop) (ρ:Xk) (w:World):(τ:Ty)→den τ→Ov→List Value→Prop
  | .bool,x,_,cs=>cs=[.bool x]
  | .int k,x,_,cs=>cs=[.int k x]
  | .str,x,_,cs=>cs=[.string x]
  | .sl e,l,ov,cs=>∃ a n c,cs=[.slice a n c]∧(∀ g,([],some g)∈ov→Tv ρ g (.slice a n c)) ∧
      ((∀ o,([],o) ∉ ov)→n=List.length l∧(0<n→∃ b o ds,a=some ⟨b,o,none⟩∧A b∧w.rangeAt b o ds∧ds.length=n * Zi e ∧
        ∀ i,i<n→Zp A ρ w e (List.getD l i (dft e)) [] ((ds.drop (i * Zi e)).take (Zi e))))
  | .arr n e,l,ov,cs=>List.length l=n∧cs.length=n * Zi e ∧
      ∀ i,i<n→Zp A ρ w e (List.getD l i (dft e)) (J6 [i] ov) ((cs.drop (i * Zi e)).take (Zi e))
  | .st fs,x,ov,cs=>Xt A ρ w fs 0 x ov cs
def Xt (A:Nat→Prop) (ρ:Xk) (w:World):(fs:List Ty)→Nat→Hh fs→Ov→List Value→Prop
  | [],_,_,_,cs=>cs=[]
  | t :: r,j,x,ov,cs=>Zp A ρ w t x.1 (J6 [j] ov) (cs.take (Zi t))∧Xt A ρ w r (j+1) x.2 ov (cs.drop (Zi t))
end
mutual
theorem Zp.length {A:Nat→Prop} {ρ:Xk} {w:World}:(τ:Ty)→{x:den τ}→{ov:Ov}→{cs:List Value}→Zp A ρ w τ x ov cs→cs.length=Zi τ
  | .bool,_,_,_,h=>by simp only [Zp] at h; subst h; rfl
  | .int _,_,_,_,h=>by simp only [Zp] at h; subst h; rfl
  | .str,_,_,_,h=>by simp only [Zp] at h; subst h; rfl
  | .sl _,_,_,_,h=>by simp only [Zp] at h; obtain ⟨_,_,_,rfl,_⟩:=h; rfl
  | .arr n e,_,_,_,h=>by simp only [Zp] at h; simpa only [Zi] using h.2.1
  | .st fs,_,_,_,h=>by simp only [Zp] at h; simpa only [Zi] using Xt.length fs h
theorem Xt.length {A:Nat→Prop} {ρ:Xk} {w:World}:(fs:List Ty)→{j:Nat}→{x:Hh fs}→{ov:Ov}→{cs:List Value}→Xt A ρ w fs j x ov cs→cs.length=Uc fs
  | [],_,_,_,_,h=>by simp only [Xt] at h; subst h; rfl
  | t :: r,_,_,_,_,h=>by
    simp only [Xt] at h
    have h1:=Zp.length t h.1
    have h2:=Xt.length r h.2
    simp only [List.length_take,List.length_drop] at h1 h2
    simp only [Uc]
    omega
end
mutual
theorem Zp.mono {A A':Nat→Prop} {ρ ρ':Xk} {w w':World} (hA:∀ b,A b→A' b) (hρ:∀ g s,ρ g=some s→ρ' g=some s)
    (hw:∀ b,A b→w'.heap[b]?=w.heap[b]?):(τ:Ty)→{x:den τ}→{ov:Ov}→{cs:List Value}→Zp A ρ w τ x ov cs→Zp A' ρ' w' τ x ov cs
  | .bool,_,_,_,h=>by simpa only [Zp] using h
  | .int _,_,_,_,h=>by simpa only [Zp] using h
  | .str,_,_,_,h=>by simpa only [Zp] using h
  | .sl e,_,_,_,h=>by
    simp only [Zp] at h ⊢
    obtain ⟨a,n,c,h1,h2,h3⟩:=h
    refine ⟨a,n,c,h1,fun g hg => ?_,fun hn=>⟨(h3 hn).1,fun hp => ?_⟩⟩
    · obtain ⟨s,ad,k1,k2⟩:=h2 g hg
      exact ⟨s,ad,hρ _ _ k1,k2⟩
    · obtain ⟨b,o,ds,k1,k2,k3,k4,k5⟩:=(h3 hn).2 hp
      refine ⟨b,o,ds,k1,hA b k2,fun j v hv => ?_,k4,fun i hi=>Zp.mono hA hρ hw e (k5 i hi)⟩
      have:=k3 j v hv
      unfold World.cell? at this ⊢
      simp only [hw b k2]
      exact this
  | .arr n e,_,_,_,h=>by
    simp only [Zp] at h ⊢
    exact ⟨h.1,h.2.1,fun i hi=>Zp.mono hA hρ hw e (h.2.2 i hi)⟩
  | .st fs,_,_,_,h=>by simp only [Zp] at h ⊢; exact Xt.mono hA hρ hw fs h
theorem Xt.mono {A A':Nat→Prop} {ρ ρ':Xk} {w w':World} (hA:∀ b,A b→A' b) (hρ:∀ g s,ρ g=some s→ρ' g=some s)
    (hw:∀ b,A b→w'.heap[b]?=w.heap[b]?):(fs:List Ty)→{j:Nat}→{x:Hh fs}→{ov:Ov}→{cs:List Value}→Xt A ρ w fs j x ov cs→Xt A' ρ' w' fs j x ov cs
  | [],_,_,_,_,h=>by simpa only [Xt] using h
  | t :: r,_,_,_,_,h=>by
    simp only [Xt] at h ⊢
    exact ⟨Zp.mono hA hρ hw t h.1,Xt.mono hA hρ hw r h.2⟩
end
theorem Qm {p q:Xb} {o:Option Nat}:{ov:Ov}→((q,o)∈J6 p ov↔(p ++ q,o)∈ov):=by
  have U6:∀ (p q r:Xb),Gc p q=some r↔q=p ++ r:=by
    intro p
    induction p with
    | nil=>intro q r; simp [Gc,eq_comm]
    | cons i p ih =>
      intro q r
      cases q with
      | nil=>simp [Gc]
      | cons j q =>
        simp only [Gc]
        cases hb:Nat.beq i j with
        | true =>
          have:=Nat.eq_of_beq_eq_true hb
          subst this
          simp [ih]
        | false =>
          have:i≠j:=fun e=>by subst e; simp [Nat.beq_refl] at hb
          simp [Ne.symm this]
  intro ov
  induction ov with
  | nil=>simp [J6]
  | cons e r ih =>
    obtain ⟨q',o'⟩:=e
    simp only [J6]
    cases hs:Gc p q' with
    | none =>
      simp only [List.mem_cons,Prod.mk.injEq]
      rw [ih]
      constructor
      · exact .inr
      · rintro (⟨h,_⟩ | h)
        · rw [(U6 p q' q).2 h.symm] at hs; cases hs
        · exact h
    | some q'' =>
      have:=(U6 p q' q'').1 hs
      subst this
      simp only [List.mem_cons,Prod.mk.injEq,ih,List.append_cancel_left_eq]
theorem Dv {ov ov':Ov} (h:∀ e,e∈ov↔e∈ov') (p:Xb):∀ e,e∈J6 p ov↔e∈J6 p ov':=fun ⟨q,o⟩=>by
  rw [Qm,Qm]; exact h _
mutual
theorem Zp.ov {A:Nat→Prop} {ρ:Xk} {w:World}:(τ:Ty)→{x:den τ}→{ov ov':Ov}→{cs:List Value}→(∀ e,e∈ov↔e∈ov')→Zp A ρ w τ x ov cs→Zp A ρ w τ x ov' cs
  | .bool,_,_,_,_,_,h=>by simpa only [Zp] using h
  | .int _,_,_,_,_,_,h=>by simpa only [Zp] using h
  | .str,_,_,_,_,_,h=>by simpa only [Zp] using h
  | .sl e,_,_,_,_,he,h=>by
    simp only [Zp] at h ⊢
    obtain ⟨a,n,c,h1,h2,h3⟩:=h
    exact ⟨a,n,c,h1,fun g hg=>h2 g ((he _).2 hg),fun hn=>h3 (fun o ho=>hn o ((he _).1 ho))⟩
  | .arr n e,_,_,_,_,he,h=>by
    simp only [Zp] at h ⊢
    exact ⟨h.1,h.2.1,fun i hi=>Zp.ov e (Dv he _) (h.2.2 i hi)⟩
  | .st fs,_,_,_,_,he,h=>by simp only [Zp] at h ⊢; exact Xt.ov fs he h
theorem Xt.ov {A:Nat→Prop} {ρ:Xk} {w:World}:(fs:List Ty)→{j:Nat}→{x:Hh fs}→{ov ov':Ov}→{cs:List Value}→(∀ e,e∈ov↔e∈ov')→Xt A ρ w fs j x ov cs→Xt A ρ w fs j x ov' cs
  | [],_,_,_,_,_,_,h=>by simpa only [Xt] using h
  | t :: r,_,_,_,_,_,he,h=>by
    simp only [Xt] at h ⊢
    exact ⟨Zp.ov t (Dv he _) h.1,Xt.ov r he h.2⟩
end
theorem Dw (p q:Xb) (ov:Ov):∀ e,e∈J6 q (J6 p ov)↔e∈J6 (p ++ q) ov:=fun ⟨r,o⟩=>by
  rw [Qm,Qm,Qm,List.append_assoc]
def cut (cs:List Value) (o n:Nat):List Value:=(cs.drop o).take n
theorem Oc (cs:List Value) (o n o' n':Nat) (h:o'+n'≤n):cut (cut cs o n) o' n'=cut cs (o+o') n':=by
  unfold cut
  rw [List.drop_take,List.drop_drop,List.take_take,Nat.min_eq_left (by omega)]
theorem Nq (cs:List Value) (n:Nat):cut cs 0 n=cs.take n:=rfl
theorem AIh (cs:List Value) (n:Nat) (h:cs.length=n):cut cs 0 n=cs:=by subst h; simp [cut]
mutual
theorem Oo:(τ:Ty)→(p:Xb)→(x:den τ)→(d:Dyn)→okP τ p→getP p τ x=some d→Jm τ p+Zi d.τ≤Zi τ
  | τ,[],x,d,_,h=>by
    have:d=⟨τ,x⟩:=by cases τ <;> simpa [getP,eq_comm] using h
    subst this
    cases τ <;> simp [Jm]
  | .st fs,i :: p,x,d,hk,h=>by
    simp only [Jm,Zi]
    simp only [okP] at hk
    simp only [getP] at h
    exact AI1 fs i p x d hk h
  | .arr n e,i :: p,x,d,hk,h=>by
    simp only [Jm,Zi]
    simp only [okP] at hk
    simp only [getP] at h
    have h1:=Oo e p _ d hk.2 h
    have:(i+1) * Zi e≤n * Zi e:=Nat.mul_le_mul_right _ hk.1
    rw [Nat.add_mul,Nat.one_mul] at this
    omega
  | .bool,_ :: _,_,_,hk,_=>by simp [okP] at hk
  | .int _,_ :: _,_,_,hk,_=>by simp [okP] at hk
  | .str,_ :: _,_,_,hk,_=>by simp [okP] at hk
  | .sl _,_ :: _,_,_,hk,_=>by simp [okP] at hk
theorem AI1:(fs:List Ty)→(i:Nat)→(p:Xb)→(x:Hh fs)→(d:Dyn)→okF fs i p →
    (match G9 fs i x with | some d=>getP p d.τ d.x | none=>none)=some d→Ub fs i p+Zi d.τ≤Uc fs
  | [],_,_,_,_,hk,_=>by simp [okF] at hk
  | t :: r,0,p,x,d,hk,h=>by
    simp only [okF] at hk
    simp only [G9] at h
    have:=Oo t p x.1 d hk h
    simp only [Ub,Uc]
    omega
  | t :: r,n+1,p,x,d,hk,h=>by
    simp only [okF] at hk
    simp only [G9] at h
    have:=AI1 r n p x.2 d hk h
    simp only [Ub,Uc]
    omega
end
mutual
theorem Zp.getP {A:Nat→Prop} {ρ:Xk} {w:World}:(τ:Ty)→(p:Xb)→{x:den τ}→{ov:Ov}→{cs:List Value}→{d:Dyn}→Zp A ρ w τ x ov cs→okP τ p →
    getP p τ x=some d→Zp A ρ w d.τ d.x (J6 p ov) (cut cs (Jm τ p) (Zi d.τ))
  | τ,[],x,ov,cs,d,h,_,hg=>by
    have:d=⟨τ,x⟩:=by cases τ <;> simpa [Ghost.getP,eq_comm] using hg
    subst this
    have h0:Jm τ []=0:=by cases τ <;> rfl
    rw [h0,AIh _ _ (Zp.length τ h)]
    exact Zp.ov τ (fun ⟨q,o⟩=>by rw [Qm]; rfl) h
  | .st fs,i :: p,x,ov,cs,d,h,hk,hg=>by
    simp only [Zp] at h
    simp only [okP] at hk
    simp only [Ghost.getP] at hg
    simp only [Jm]
    have:=Xt.getP fs 0 i p h hk hg
    simpa only [Nat.zero_add] using this
  | .arr n e,i :: p,x,ov,cs,d,h,hk,hg=>by
    simp only [Zp] at h
    simp only [okP] at hk
    simp only [Ghost.getP] at hg
    simp only [Jm]
    have h1:=Zp.getP e p (h.2.2 i hk.1) hk.2 hg
    have h2:=Oo e p _ d hk.2 hg
    rw [show (List.drop (i * Zi e) cs).take (Zi e)=cut cs (i * Zi e) (Zi e) from rfl,Oc _ _ _ _ _ h2] at h1
    exact Zp.ov d.τ (Dw [i] p ov) h1
  | .bool,_ :: _,_,_,_,_,_,hk,_=>by simp [okP] at hk
  | .int _,_ :: _,_,_,_,_,_,hk,_=>by simp [okP] at hk
  | .str,_ :: _,_,_,_,_,_,hk,_=>by simp [okP] at hk
  | .sl _,_ :: _,_,_,_,_,_,hk,_=>by simp [okP] at hk
theorem Xt.getP {A:Nat→Prop} {ρ:Xk} {w:World}:(fs:List Ty)→(j i:Nat)→(p:Xb)→{x:Hh fs}→{ov:Ov}→{cs:List Value}→{d:Dyn}→Xt A ρ w fs j x ov cs→okF fs i p →
    (match G9 fs i x with | some d=>Ghost.getP p d.τ d.x | none=>none)=some d→Zp A ρ w d.τ d.x (J6 ((j+i) :: p) ov) (cut cs (Ub fs i p) (Zi d.τ))
  | [],_,_,_,_,_,_,_,_,hk,_=>by simp [okF] at hk
  | t :: r,j,0,p,x,ov,cs,d,h,hk,hg=>by
    simp only [Xt] at h
    simp only [okF] at hk
    simp only [G9] at hg
    simp only [Ub]
    have h1:=Zp.getP t p h.1 hk hg
    have h2:=Oo t p _ d hk hg
    rw [← Nq,Oc _ _ _ _ _ h2,Nat.zero_add] at h1
    exact Zp.ov d.τ (Dw [j] p ov) h1
  | t :: r,j,n+1,p,x,ov,cs,d,h,hk,hg=>by
    simp only [Xt] at h
    simp only [okF] at hk
    simp only [G9] at hg
    simp only [Ub]
    have h1:=Xt.getP r (j+1) n p h.2 hk hg
    have:cut (List.drop (Zi t) cs) (Ub r n p) (Zi d.τ)=cut cs (Zi t+Ub r n p) (Zi d.τ):=by
      unfold cut; rw [List.drop_drop]
    rw [this] at h1
    rw [show j+(n+1)=j+1+n by omega]
    exact h1
end
end Go.Proofs.YtmemggdjnfccfaaGreatDoor.Ghost
namespace Go.Proofs.YtmemggdjnfccfaaGreatDoor.Ghost
open Go
def V5 (cs:List Value) (o:Nat) (ds:List Value):List Value:=cs.take o ++ ds ++ cs.drop (o+ds.length)
theorem Vi {cs:List Value} {o:Nat} {ds:List Value} (h:o+ds.length≤cs.length):(V5 cs o ds).length=cs.length:=by
  simp only [V5,List.length_append,List.length_take,List.length_drop]; omega
theorem Q5 {cs:List Value} {o:Nat} {ds:List Value} (h:o+ds.length≤cs.length) (k:Nat) :
    (V5 cs o ds)[k]?=if k<o then cs[k]? else if k<o+ds.length then ds[k - o]? else cs[k]?:=by
  simp only [V5,List.append_assoc]
  by_cases h1:k<o
  · rw [if_pos h1,List.getElem?_append_left (by simp; omega),List.getElem?_take_of_lt h1]
  · rw [if_neg h1,List.getElem?_append_right (by simp; omega)]
    have:(List.take o cs).length=o:=by simp; omega
    rw [this]
    by_cases h2:k<o+ds.length
    · rw [if_pos h2,List.getElem?_append_left (by omega)]
    · rw [if_neg h2,List.getElem?_append_right (by omega),List.getElem?_drop]
      congr 1; omega
theorem Qa {cs:List Value} {o n:Nat} (k:Nat):(cut cs o n)[k]?=if k<n then cs[o+k]? else none:=by
  unfold cut
  by_cases h:k<n
  · rw [if_pos h,List.getElem?_take_of_lt h,List.getElem?_drop]
  · rw [if_neg h,List.getElem?_eq_none]; simp; omega
theorem On {cs:List Value} {o n:Nat} (h:o+n≤cs.length):(cut cs o n).length=n:=by
  unfold cut; simp only [List.length_take,List.length_drop]; omega
theorem Wb {cs:List Value} {o n o':Nat} {ds:List Value} (h:o+n≤cs.length) (h':o'+ds.length≤n) :
    cut (V5 cs (o+o') ds) o n=V5 (cut cs o n) o' ds:=by
  refine List.ext_getElem? fun k => ?_
  have hl:(cut cs o n).length=n:=On h
  rw [Qa,Q5 (by omega),Q5 (by omega),Qa]
  by_cases h1:k<n
  · simp only [h1,if_true]
    by_cases h2:k<o'
    · rw [if_pos (by omega),if_pos h2]
    · rw [if_neg (by omega),if_neg h2]
      by_cases h3:k<o'+ds.length
      · rw [if_pos (by omega),if_pos h3]; congr 1; omega
      · rw [if_neg (by omega),if_neg h3]
  · simp only [h1,if_false]
    rw [if_neg (by omega),if_neg (by omega)]
theorem H7 {cs:List Value} {o n o':Nat} {ds:List Value} (h:o'+ds.length≤cs.length) (h':o+n≤o'∨o'+ds.length≤o) :
    cut (V5 cs o' ds) o n=cut cs o n:=by
  refine List.ext_getElem? fun k => ?_
  rw [Qa,Qa,Q5 h]
  by_cases h1:k<n
  · simp only [h1,if_true]
    rcases h' with h' | h'
    · rw [if_pos (by omega)]
    · rw [if_neg (by omega),if_neg (by omega)]
  · simp only [h1,if_false]
theorem Rr (cs:List Value) (o:Nat):cs.drop o=cut cs o (cs.length - o):=by
  unfold cut; rw [List.take_of_length_le]; simp
def Wh (p:Xb) (ov ov' ov'':Ov):Prop:=∀ e,e∈ov''↔(e∈ov∧Gc p e.1=none)∨(∃ q,Gc p e.1=some q∧(q,e.2)∈ov')
theorem Wh.nil {ov ov' ov'':Ov} (h:Wh [] ov ov' ov''):∀ e,e∈ov'↔e∈ov'':=fun ⟨q,o⟩=>by
  rw [h (q,o)]; simp [Gc]
theorem Wh.same {i:Nat} {p:Xb} {ov ov' ov'':Ov} (h:Wh (i :: p) ov ov' ov''):Wh p (J6 [i] ov) ov' (J6 [i] ov''):=fun ⟨q,o⟩=>by
  rw [Qm,Qm,h ([i] ++ q,o)]; simp [Gc]
theorem Wh.other {i j:Nat} {p:Xb} {ov ov' ov'':Ov} (h:Wh (i :: p) ov ov' ov'') (hij:j≠i):∀ e,e∈J6 [j] ov↔e∈J6 [j] ov'':=fun ⟨q,o⟩=>by
  have:Nat.beq i j=false:=by
    cases hb:Nat.beq i j with
    | false=>rfl
    | true=>exact absurd (Nat.eq_of_beq_eq_true hb).symm hij
  rw [Qm,Qm,h ([j] ++ q,o)]; simp [Gc,this]
theorem AB2 {e x:Xb×Option Nat}:{ov:Ov}→(x∈AF5 e ov↔x=e∨x∈ov)
  | []=>by simp [AF5]
  | y :: r=>by
    simp only [AF5]
    split
    · simp
    · simp only [List.mem_cons,AB2 (ov:=r)]
      constructor
      · rintro (h | h | h) <;> simp [h]
      · rintro (h | h | h) <;> simp [h]
theorem N5 {x:Xb×Option Nat}:{a b:Ov}→(x∈M1 a b↔x∈a∨x∈b)
  | [],_=>by simp [M1]
  | e :: r,b=>by
    simp only [M1,N5 (a:=r),AB2,List.mem_cons]
    constructor
    · rintro (h | h | h) <;> simp [h]
    · rintro ((h | h) | h) <;> simp [h]
theorem My {p:Xb} {e:Xb×Option Nat}:{ov:Ov}→(e∈Du p ov↔∃ q,e.1=p ++ q∧(q,e.2)∈ov)
  | []=>by simp [Du]
  | (q',o') :: r=>by
    obtain ⟨q,o⟩:=e
    simp only [Du,List.mem_cons,My (ov:=r),Prod.mk.injEq]
    constructor
    · rintro (⟨rfl,rfl⟩ | ⟨q'',h1,h2⟩)
      · exact ⟨q',rfl,.inl ⟨rfl,rfl⟩⟩
      · exact ⟨q'',h1,.inr h2⟩
    · rintro ⟨q'',h1,⟨rfl,rfl⟩ | h2⟩
      · exact .inl ⟨h1,rfl⟩
      · exact .inr ⟨q'',h1,h2⟩
theorem Rb {p:Xb} {e:Xb×Option Nat}:{ov:Ov}→(e∈Oq p ov↔e∈ov∧Gc p e.1=none)
  | []=>by simp [Oq]
  | (q',o') :: r=>by
    obtain ⟨q,o⟩:=e
    simp only [Oq]
    cases hs:Gc p q' with
    | none =>
      simp only [List.mem_cons,Rb (ov:=r),Prod.mk.injEq]
      constructor
      · rintro (⟨rfl,rfl⟩ | h)
        · exact ⟨.inl ⟨rfl,rfl⟩,hs⟩
        · exact ⟨.inr h.1,h.2⟩
      · rintro ⟨⟨rfl,rfl⟩ | h,h'⟩
        · exact .inl ⟨rfl,rfl⟩
        · exact .inr ⟨h,h'⟩
    | some q'' =>
      simp only [List.mem_cons,Rb (ov:=r),Prod.mk.injEq]
      constructor
      · rintro ⟨h,h'⟩; exact ⟨.inr h,h'⟩
      · rintro ⟨⟨rfl,rfl⟩ | h,h'⟩
        · rw [hs] at h'; cases h'
        · exact ⟨h,h'⟩
theorem U6 {p q r:Xb}:Gc p q=some r↔q=p ++ r:=by
  induction p generalizing q r with
  | nil=>simp [Gc]
  | cons i p ih =>
    cases q with
    | nil=>simp [Gc]
    | cons j q =>
      simp only [Gc]
      cases hb:Nat.beq i j with
      | true =>
        have:=Nat.eq_of_beq_eq_true hb
        subst this
        simp [ih]
      | false =>
        have:i≠j:=fun e=>by subst e; simp [Nat.beq_refl] at hb
        simp [Ne.symm this]
theorem Wh.merge (p:Xb) (ov ov':Ov):Wh p ov ov' (M1 (Du p ov') (Oq p ov)):=fun e=>by
  rw [N5,My,Rb]
  constructor
  · rintro (⟨q,h1,h2⟩ | h)
    · exact .inr ⟨q,U6.2 h1,h2⟩
    · exact .inl h
  · rintro (h | ⟨q,h1,h2⟩)
    · exact .inr h
    · exact .inl ⟨q,U6.1 h1,h2⟩
theorem Yk {a b:Ty} {x:den a} {y:den b} (h:Ji a b x=some y):(⟨a,x⟩:Dyn)=⟨b,y⟩:=by
  unfold Ji at h
  split at h
  · rename_i e _
    subst e
    simp at h
    subst h; rfl
  · cases h
mutual
theorem U5:(τ:Ty)→(p:Xb)→(x x':den τ)→(d:Dyn)→okP τ p→setP τ p x d=some x'→Jm τ p+Zi d.τ≤Zi τ
  | τ,[],x,x',d,_,h=>by
    have hc:Ji d.τ τ d.x=some x':=by cases τ <;> simpa only [setP] using h
    have:=Yk hc
    obtain ⟨σ,y⟩:=d
    cases this
    show Jm σ []+Zi σ≤Zi σ
    cases σ <;> simp [Jm]
  | .st fs,i :: p,x,x',d,hk,h=>by
    simp only [Jm,Zi]
    simp only [okP] at hk
    simp only [setP] at h
    exact E7 fs i p x x' d hk h
  | .arr n e,i :: p,x,x',d,hk,h=>by
    simp only [Jm,Zi]
    simp only [okP] at hk
    simp only [setP] at h
    cases hs:setP e p (List.getD x i (dft e)) d with
    | none=>rw [hs] at h; cases h
    | some y =>
      have h1:=U5 e p _ _ d hk.2 hs
      have:(i+1) * Zi e≤n * Zi e:=Nat.mul_le_mul_right _ hk.1
      rw [Nat.add_mul,Nat.one_mul] at this
      omega
  | .bool,_ :: _,_,_,_,hk,_=>by simp [okP] at hk
  | .int _,_ :: _,_,_,_,hk,_=>by simp [okP] at hk
  | .str,_ :: _,_,_,_,hk,_=>by simp [okP] at hk
  | .sl _,_ :: _,_,_,_,hk,_=>by simp [okP] at hk
theorem E7:(fs:List Ty)→(i:Nat)→(p:Xb)→(x x':Hh fs)→(d:Dyn)→okF fs i p →
    K4 fs i p x d=some x'→Ub fs i p+Zi d.τ≤Uc fs
  | [],_,_,_,_,_,hk,_=>by simp [okF] at hk
  | t :: r,0,p,x,x',d,hk,h=>by
    simp only [okF] at hk
    simp only [K4] at h
    cases hs:setP t p x.1 d with
    | none=>rw [hs] at h; cases h
    | some y =>
      have:=U5 t p x.1 y d hk hs
      simp only [Ub,Uc]
      omega
  | t :: r,n+1,p,x,x',d,hk,h=>by
    simp only [okF] at hk
    simp only [K4] at h
    cases hs:K4 r n p x.2 d with
    | none=>rw [hs] at h; cases h
    | some y =>
      have:=E7 r n p x.2 y d hk hs
      simp only [Ub,Uc]
      omega
end
mutual
theorem Zp.setP {A:Nat→Prop} {ρ:Xk} {w:World}:(τ:Ty)→(p:Xb)→{x x':den τ}→{ov ov' ov'':Ov}→{cs ds:List Value}→{d:Dyn} →
    Zp A ρ w τ x ov cs→okP τ p→setP τ p x d=some x'→Zp A ρ w d.τ d.x ov' ds→Wh p ov ov' ov''→Zp A ρ w τ x' ov'' (V5 cs (Jm τ p) ds)
  | τ,[],x,x',ov,ov',ov'',cs,ds,d,h,_,hs,hd,hv=>by
    have hc:Ji d.τ τ d.x=some x':=by cases τ <;> simpa only [Ghost.setP] using hs
    have:=Yk hc
    obtain ⟨σ,y⟩:=d
    cases this
    have h0:Jm σ []=0:=by cases σ <;> rfl
    have h1:=Zp.length σ h
    have h2:ds.length=Zi σ:=Zp.length σ hd
    have:V5 cs (Jm σ []) ds=ds:=by
      unfold V5
      rw [h0,Nat.zero_add,List.drop_eq_nil_of_le (by omega)]; simp
    rw [this]
    exact Zp.ov σ hv.nil hd
  | .st fs,i :: p,x,x',ov,ov',ov'',cs,ds,d,h,hk,hs,hd,hv=>by
    simp only [Zp] at h ⊢
    simp only [okP] at hk
    simp only [Ghost.setP] at hs
    simp only [Jm]
    exact Xt.setP fs 0 i p h hk hs hd (by rw [Nat.zero_add]; exact hv)
  | .arr n e,i :: p,x,x',ov,ov',ov'',cs,ds,d,h,hk,hs,hd,hv=>by
    simp only [Zp] at h ⊢
    simp only [okP] at hk
    simp only [Ghost.setP] at hs
    simp only [Jm]
    cases hy:Ghost.setP e p (List.getD x i (dft e)) d with
    | none=>rw [hy] at hs; cases hs
    | some y =>
      rw [hy] at hs
      simp only [Option.some.injEq] at hs
      subst hs
      have h2:=Zp.length d.τ hd
      have h3:=U5 e p _ _ d hk.2 hy
      have h4:(i+1) * Zi e≤n * Zi e:=Nat.mul_le_mul_right _ hk.1
      rw [Nat.add_mul,Nat.one_mul] at h4
      refine ⟨by simpa using h.1,by rw [Vi (by omega)]; exact h.2.1,fun k hkn => ?_⟩
      have h4':(k+1) * Zi e≤n * Zi e:=Nat.mul_le_mul_right _ hkn
      rw [Nat.add_mul,Nat.one_mul] at h4'
      have hget:=h.2.2 k hkn
      change Zp A ρ w e _ _ (cut cs (k * Zi e) (Zi e)) at hget
      change Zp A ρ w e _ _ (cut _ (k * Zi e) (Zi e))
      by_cases hki:k=i
      · subst hki
        have h5:=Zp.setP e p hget hk.2 hy hd hv.same
        rw [Wb (by omega) (by omega)]
        have:List.getD (List.set x k y) k (dft e)=y:=by
          have hl:k<List.length x:=by omega
          rw [List.getD_eq_getElem?_getD,List.getElem?_set_self hl]; rfl
        rw [this]; exact h5
      · have:List.getD (List.set x i y) k (dft e)=List.getD x k (dft e):=by
          rw [List.getD_eq_getElem?_getD,List.getElem?_set_ne (Ne.symm hki),← List.getD_eq_getElem?_getD]
        rw [this,H7 (by omega) ?_]
        · exact Zp.ov e (hv.other hki) hget
        · rcases Nat.lt_or_gt_of_ne hki with hlt | hgt
          · left
            have:(k+1) * Zi e≤i * Zi e:=Nat.mul_le_mul_right _ hlt
            rw [Nat.add_mul,Nat.one_mul] at this
            omega
          · right
            have:(i+1) * Zi e≤k * Zi e:=Nat.mul_le_mul_right _ hgt
            rw [Nat.add_mul,Nat.one_mul] at this
            omega
  | .bool,_ :: _,_,_,_,_,_,_,_,_,_,hk,_,_,_=>by simp [okP] at hk
  | .int _,_ :: _,_,_,_,_,_,_,_,_,_,hk,_,_,_=>by simp [okP] at hk
  | .str,_ :: _,_,_,_,_,_,_,_,_,_,hk,_,_,_=>by simp [okP] at hk
  | .sl _,_ :: _,_,_,_,_,_,_,_,_,_,hk,_,_,_=>by simp [okP] at hk
theorem Xt.setP {A:Nat→Prop} {ρ:Xk} {w:World}:(fs:List Ty)→(j i:Nat)→(p:Xb)→{x x':Hh fs}→{ov ov' ov'':Ov}→{cs ds:List Value}→{d:Dyn} →
    Xt A ρ w fs j x ov cs→okF fs i p→K4 fs i p x d=some x'→Zp A ρ w d.τ d.x ov' ds→Wh ((j+i) :: p) ov ov' ov''→Xt A ρ w fs j x' ov'' (V5 cs (Ub fs i p) ds)
  | [],_,_,_,_,_,_,_,_,_,_,_,_,hk,_,_,_=>by simp [okF] at hk
  | t :: r,j,0,p,x,x',ov,ov',ov'',cs,ds,d,h,hk,hs,hd,hv=>by
    have hlen:=Xt.length (t :: r) h
    simp only [Uc] at hlen
    simp only [Xt] at h ⊢
    simp only [okF] at hk
    simp only [K4] at hs
    simp only [Ub]
    cases hy:Ghost.setP t p x.1 d with
    | none=>rw [hy] at hs; cases hs
    | some y =>
      rw [hy] at hs
      simp only [Option.some.injEq] at hs
      subst hs
      have h2:=Zp.length d.τ hd
      have h3:=U5 t p _ _ d hk hy
      have h5:=Zp.setP t p h.1 hk hy hd hv.same
      refine ⟨?_,?_⟩
      · have:=Wb (cs:=cs) (o:=0) (n:=Zi t) (o':=Jm t p) (ds:=ds) (by omega) (by omega)
        rw [Nat.zero_add] at this
        rw [← Nq,this]; exact h5
      · have:(V5 cs (Jm t p) ds).drop (Zi t)=cs.drop (Zi t):=by
          rw [Rr,Vi (by omega),H7 (by omega) (by omega),← Rr]
        rw [this]
        exact Xt.skip r (j+1) (i:=j) (by omega) h.2 hv
  | t :: r,j,n+1,p,x,x',ov,ov',ov'',cs,ds,d,h,hk,hs,hd,hv=>by
    have hlen:=Xt.length (t :: r) h
    simp only [Uc] at hlen
    simp only [Xt] at h ⊢
    simp only [okF] at hk
    simp only [K4] at hs
    simp only [Ub]
    cases hy:Ghost.K4 r n p x.2 d with
    | none=>rw [hy] at hs; cases hs
    | some y =>
      rw [hy] at hs
      simp only [Option.some.injEq] at hs
      subst hs
      have h2:=Zp.length d.τ hd
      have h3:=E7 r n p _ _ d hk hy
      have h5:=Xt.setP r (j+1) n p h.2 hk hy hd (by rw [show j+1+n=j+(n+1) by omega]; exact hv)
      refine ⟨?_,?_⟩
      · rw [← Nq,H7 (by omega) (by omega),Nq]
        exact Zp.ov t (hv.other (by omega)) h.1
      · have:(V5 cs (Zi t+Ub r n p) ds).drop (Zi t)=V5 (cs.drop (Zi t)) (Ub r n p) ds:=by
          rw [Rr,Vi (by omega),Wb (by omega) (by omega),← Rr]
        rw [this]; exact h5
theorem Xt.skip {A:Nat→Prop} {ρ:Xk} {w:World}:(fs:List Ty)→(j:Nat)→{i:Nat}→{p:Xb}→{x:Hh fs}→{ov ov' ov'':Ov}→{cs:List Value}→i<j →
    Xt A ρ w fs j x ov cs→Wh (i :: p) ov ov' ov''→Xt A ρ w fs j x ov'' cs
  | [],_,_,_,_,_,_,_,_,_,h,_=>by simpa only [Xt] using h
  | t :: r,j,i,p,x,ov,ov',ov'',cs,hij,h,hv=>by
    simp only [Xt] at h ⊢
    exact ⟨Zp.ov t (hv.other (by omega)) h.1,Xt.skip r (j+1) (by omega) h.2 hv⟩
end
end Go.Proofs.YtmemggdjnfccfaaGreatDoor.Ghost
namespace Go.Proofs.YtmemggdjnfccfaaGreatDoor.Ghost
open Go
def Um:Ty→Bool
  | .st _=>true
  | .arr _ _=>true
  | _=>false
def mkV (τ:Ty) (cs:List Value):Value:=match Um τ with
  | true=>.agg cs.toArray
  | false=>cs.headD undef
theorem Vd {A:Nat→Prop} {ρ:Xk} {w:World} {τ:Ty} {x:den τ} {ov:Ov} {cs:List Value} (h:Zp A ρ w τ x ov cs):(mkV τ cs).cells.toList=cs:=by
  cases τ with
  | bool=>simp only [Zp] at h; subst h; rfl
  | int k=>simp only [Zp] at h; subst h; rfl
  | str=>simp only [Zp] at h; subst h; rfl
  | sl e=>simp only [Zp] at h; obtain ⟨_,_,_,rfl,_⟩:=h; rfl
  | arr n e=>rfl
  | st fs=>rfl
def Yz:List Value→List Value
  | []=>[]
  | v :: r=>v.cells.toList ++ Yz r
def Tb:List SV→List Value→Prop
  | u :: r,v :: s=>v.cells.size=Jn u∧(∀ c∈v.cells.toList,c.oneCell'=true)∧Tb r s
  | _,_=>True
mutual
def Zn (A:Nat→Prop) (ρ:Xk) (w:World):SV→Value→Prop
  | .dat τ x ov,v=>∃ cs,Zp A ρ w τ x ov cs∧v=mkV τ cs
  | .ptr g p,v=>∃ s,ρ g=some s∧s.ok p∧v=(match s.mp with | true=>.map (some s.b) | false=>.pointer (some ⟨s.b,s.off p,none⟩))
  | .ref τ x,v=>∃ b o cs,v=.pointer (some ⟨b,o,none⟩)∧A b∧w.rangeAt b o cs∧Zp A ρ w τ x [] cs
  | .refv u,v=>∃ b o u',v=.pointer (some ⟨b,o,none⟩)∧A b∧w.rangeAt b o (Value.cells u').toList∧Zn A ρ w u u'
  | .selfc f us,v=>∃ b o,v=.pointer (some ⟨b,o,none⟩)∧A b∧∃ vs:List Value,w.rangeAt b o [.func (.func f) #[] (v :: vs).toArray]∧Zt A ρ w us vs
  | .glo k,v=>v=.pointer (some ⟨k,0,none⟩)
  | .elp g i p,v=>∃ s,ρ g=some s∧s.mp=false∧i<s.len∧s.ok p∧v=.pointer (some ⟨s.b,i * s.es+s.off p,none⟩)
  | .clo f caps,v=>∃ vs:List Value,v=.func (.func f) #[] vs.toArray∧Zt A ρ w caps vs
  | .tup us,v=>∃ vs:List Value,v=.tuple vs.toArray∧Zt A ρ w us vs
  | .slv us,v=>∃ a n c,v=.slice a n c∧n=us.length∧∃ vs,Zt A ρ w us vs∧Tb us vs∧(∃ z,∀ u,u∈us→Jn u=z)∧(0<n→∃ b o,a=some ⟨b,o,none⟩∧A b∧w.rangeAt b o (Yz vs))
  | .fmap ks us,v=>∃ b es c,v=.map (some b)∧A b∧w.heap[b]?=some (.map es c)∧es.toList.map (·.key)=ks.map (Value.int .i64)∧Zt A ρ w us (es.toList.map (·.val))
  | .agv us,v=>∃ vs,v=.agg (Yz vs).toArray∧Zt A ρ w us vs∧Tb us vs
  | .nilfn,v=>v=.nilFunc
  | .und,v=>v=undef
  | .junk,_=>True
def Zt (A:Nat→Prop) (ρ:Xk) (w:World):List SV→List Value→Prop
  | [],vs=>vs=[]
  | u :: r,vs=>∃ v vs',vs=v :: vs'∧Zn A ρ w u v∧Zt A ρ w r vs'
end
theorem Yi {w w':World} {b o:Nat} {cs:List Value} (h:w'.heap[b]?=w.heap[b]?) (hr:w.rangeAt b o cs):w'.rangeAt b o cs:=fun j v hv=>by
  have:=hr j v hv
  unfold World.cell? at this ⊢
  simp only [h]
  exact this
theorem Wv {w w':World} {b o n:Nat} (h:w'.heap[b]?=w.heap[b]?) (hr:w.there b o n):w'.there b o n:=fun j hj=>by
  have:=hr j hj
  unfold World.cell? World.frozen? at this ⊢
  simp only [h]
  exact this
mutual
theorem Zn.mono {A A':Nat→Prop} {ρ ρ':Xk} {w w':World} (hA:∀ b,A b→A' b) (hρ:∀ g s,ρ g=some s→ρ' g=some s)
    (hw:∀ b,A b→w'.heap[b]?=w.heap[b]?):(u:SV)→{v:Value}→Zn A ρ w u v→Zn A' ρ' w' u v
  | .dat τ x ov,_,h=>by
    simp only [Zn] at h ⊢
    obtain ⟨cs,h1,h2⟩:=h
    exact ⟨cs,Zp.mono hA hρ hw τ h1,h2⟩
  | .ptr g p,_,h=>by
    simp only [Zn] at h ⊢
    obtain ⟨s,h1,h2⟩:=h
    exact ⟨s,hρ _ _ h1,h2⟩
  | .ref τ x,_,h=>by
    simp only [Zn] at h ⊢
    obtain ⟨b,o,cs,h1,h2,h3,h4⟩:=h
    exact ⟨b,o,cs,h1,hA b h2,Yi (hw b h2) h3,Zp.mono hA hρ hw τ h4⟩
  | .refv u,_,h=>by
    simp only [Zn] at h ⊢
    obtain ⟨b,o,u',h1,h2,h3,h4⟩:=h
    exact ⟨b,o,u',h1,hA b h2,Yi (hw b h2) h3,Zn.mono hA hρ hw u h4⟩
  | .selfc f us,_,h=>by
    simp only [Zn] at h ⊢
    obtain ⟨b,o,h1,h2,vs,h3,h4⟩:=h
    exact ⟨b,o,h1,hA b h2,vs,Yi (hw b h2) h3,Zt.mono hA hρ hw us h4⟩
  | .elp g i p,_,h=>by
    simp only [Zn] at h ⊢
    obtain ⟨s,h1,h2⟩:=h
    exact ⟨s,hρ _ _ h1,h2⟩
  | .clo f caps,_,h=>by
    simp only [Zn] at h ⊢
    obtain ⟨vs,h1,h2⟩:=h
    exact ⟨vs,h1,Zt.mono hA hρ hw caps h2⟩
  | .tup us,_,h=>by
    simp only [Zn] at h ⊢
    obtain ⟨vs,h1,h2⟩:=h
    exact ⟨vs,h1,Zt.mono hA hρ hw us h2⟩
  | .slv us,_,h=>by
    simp only [Zn] at h ⊢
    obtain ⟨a,n,c,h1,h2,vs,h3,h5,h6,h4⟩:=h
    refine ⟨a,n,c,h1,h2,vs,Zt.mono hA hρ hw us h3,h5,h6,fun hn => ?_⟩
    obtain ⟨b,o,k1,k2,k3⟩:=h4 hn
    exact ⟨b,o,k1,hA b k2,Yi (hw b k2) k3⟩
  | .fmap ks us,_,h=>by
    simp only [Zn] at h ⊢
    obtain ⟨b,es,c,h1,h2,h3,h4,h5⟩:=h
    exact ⟨b,es,c,h1,hA b h2,by rw [hw b h2]; exact h3,h4,Zt.mono hA hρ hw us h5⟩
  | .agv us,_,h=>by
    simp only [Zn] at h ⊢
    obtain ⟨vs,h1,h2,h3⟩:=h
    exact ⟨vs,h1,Zt.mono hA hρ hw us h2,h3⟩
  | .nilfn,_,h=>by simpa only [Zn] using h
  | .glo _,_,h=>by simpa only [Zn] using h
  | .und,_,h=>by simpa only [Zn] using h
  | .junk,_,_=>by simp only [Zn]
theorem Zt.mono {A A':Nat→Prop} {ρ ρ':Xk} {w w':World} (hA:∀ b,A b→A' b) (hρ:∀ g s,ρ g=some s→ρ' g=some s)
    (hw:∀ b,A b→w'.heap[b]?=w.heap[b]?):(us:List SV)→{vs:List Value}→Zt A ρ w us vs→Zt A' ρ' w' us vs
  | [],_,h=>by simpa only [Zt] using h
  | u :: r,_,h=>by
    simp only [Zt] at h ⊢
    obtain ⟨v,vs',h1,h2,h3⟩:=h
    exact ⟨v,vs',h1,Zn.mono hA hρ hw u h2,Zt.mono hA hρ hw r h3⟩
end
mutual
theorem R5 (f:Nat→Nat):(u:SV)→Jn (Vk f u)=Jn u
  | .dat _ _ _=>rfl
  | .ptr _ _=>rfl
  | .ref _ _=>rfl
  | .refv _=>rfl
  | .selfc _ _=>rfl
  | .glo _=>rfl
  | .elp _ _ _=>rfl
  | .clo _ _=>rfl
  | .tup _=>rfl
  | .slv _=>rfl
  | .fmap _ _=>rfl
  | .agv us=>by simp only [Vk,Jn]; exact Fu f us
  | .nilfn=>rfl
  | .und=>rfl
  | .junk=>rfl
theorem Fu (f:Nat→Nat):(us:List SV)→Hm (Kh f us)=Hm us
  | []=>rfl
  | u :: r=>by simp only [Kh,Hm,R5 f u,Fu f r]
end
theorem Da (f:Nat→Nat):(us:List SV)→(vs:List Value)→Tb us vs→Tb (Kh f us) vs
  | [],_,_=>by simp [Kh,Tb]
  | _ :: _,[],_=>by simp [Kh,Tb]
  | u :: r,v :: s,h=>by
    simp only [Tb,Kh] at h ⊢
    exact ⟨by rw [R5]; exact h.1,h.2.1,Da f r s h.2.2⟩
theorem AB1 {f:Nat→Nat} {u:SV}:{us:List SV}→u∈Kh f us→∃ u',u'∈us∧u=Vk f u'
  | v :: r,h=>by
    simp only [Kh,List.mem_cons] at h
    rcases h with rfl | h
    · exact ⟨v,by simp,rfl⟩
    · obtain ⟨u',h1,h2⟩:=AB1 h
      exact ⟨u',by simp [h1],h2⟩
theorem Eo {f:Nat→Nat} {q:Xb} {g:Nat}:{ov:Ov}→((q,some g)∈Kz f ov↔∃ g',(q,some g')∈ov∧g=f g')
  | []=>by simp [Kz]
  | (q',some g') :: r=>by
    simp only [Kz,List.mem_cons,Eo (ov:=r),Prod.mk.injEq,Option.some.injEq]
    constructor
    · rintro (⟨rfl,rfl⟩ | ⟨g'',h1,h2⟩)
      · exact ⟨g',.inl ⟨rfl,rfl⟩,rfl⟩
      · exact ⟨g'',.inr h1,h2⟩
    · rintro ⟨g'',⟨rfl,rfl⟩ | h1,h2⟩
      · exact .inl ⟨rfl,h2⟩
      · exact .inr ⟨g'',h1,h2⟩
  | (q',none) :: r=>by simp [Kz,Eo (ov:=r)]
theorem Pf {f:Nat→Nat} {q:Xb}:{ov:Ov}→((∃ o,(q,o)∈Kz f ov)↔∃ o,(q,o)∈ov)
  | []=>by simp [Kz]
  | (q',some g') :: r=>by
    have:=Pf (f:=f) (q:=q) (ov:=r)
    simp only [Kz,List.mem_cons,Prod.mk.injEq,exists_or,this]
    constructor
    · rintro (⟨o,rfl,_⟩ | h)
      · exact .inl ⟨some g',rfl,rfl⟩
      · exact .inr h
    · rintro (⟨o,rfl,_⟩ | h)
      · exact .inl ⟨some (f g'),rfl,rfl⟩
      · exact .inr h
  | (q',none) :: r=>by
    have:=Pf (f:=f) (q:=q) (ov:=r)
    simp only [Kz,List.mem_cons,Prod.mk.injEq,exists_or,this]
theorem Rz (f:Nat→Nat) (p:Xb):(ov:Ov)→J6 p (Kz f ov)=Kz f (J6 p ov)
  | []=>rfl
  | (q,some g) :: r=>by
    simp only [Kz,J6]
    cases Gc p q <;> simp [Kz,Rz f p r]
  | (q,none) :: r=>by
    simp only [Kz,J6]
    cases Gc p q <;> simp [Kz,Rz f p r]
theorem Ez {p:Nat→Bool} {q:Xb} {g:Nat}:{ov:Ov}→Ui p ov=true→(q,some g)∈ov→p g=true
  | (q',some g') :: r,h,hm=>by
    simp only [Ui,Bool.and_eq_true] at h
    simp only [List.mem_cons,Prod.mk.injEq,Option.some.injEq] at hm
    rcases hm with ⟨rfl,rfl⟩ | hm
    · exact h.1
    · exact Ez h.2 hm
  | (q',none) :: r,h,hm=>by
    simp only [Ui] at h
    simp only [List.mem_cons,Prod.mk.injEq,reduceCtorEq,and_false,false_or] at hm
    exact Ez h hm
theorem Tt {p:Nat→Bool} {q:Xb}:{ov:Ov}→Ui p ov=true→Ui p (J6 q ov)=true
  | [],_=>rfl
  | (q',some g') :: r,h=>by
    simp only [Ui,Bool.and_eq_true] at h
    simp only [J6]
    cases Gc q q'
    · exact Tt h.2
    · simp only [Ui,Bool.and_eq_true]; exact ⟨h.1,Tt h.2⟩
  | (q',none) :: r,h=>by
    simp only [Ui] at h
    simp only [J6]
    cases Gc q q'
    · exact Tt h
    · simp only [Ui]; exact Tt h
section names
variable {A:Nat→Prop} {ρ ρ':Xk} {w:World} {p:Nat→Bool} {f:Nat→Nat} 
mutual
theorem Zp.names (hf:∀ g s,p g=true→ρ g=some s→ρ' (f g)=some s):(τ:Ty)→{x:den τ}→{ov:Ov}→{cs:List Value}→Ui p ov=true→Zp A ρ w τ x ov cs→Zp A ρ' w τ x (Kz f ov) cs
  | .bool,_,_,_,_,h=>by simpa only [Zp] using h
  | .int _,_,_,_,_,h=>by simpa only [Zp] using h
  | .str,_,_,_,_,h=>by simpa only [Zp] using h
  | .sl e,_,ov,_,hp,h=>by
    simp only [Zp] at h ⊢
    obtain ⟨a,n,c,h1,h2,h3⟩:=h
    refine ⟨a,n,c,h1,fun g hg => ?_,fun hn => ?_⟩
    · obtain ⟨g',k1,rfl⟩:=Eo.1 hg
      obtain ⟨s,ad,m1,m2⟩:=h2 g' k1
      exact ⟨s,ad,hf _ _ (Ez hp k1) m1,m2⟩
    · have hn':∀ o,([],o) ∉ ov:=fun o ho=>by
        obtain ⟨o',ho'⟩:=Pf (f:=f).2 ⟨o,ho⟩
        exact hn o' ho'
      refine ⟨(h3 hn').1,fun hpos => ?_⟩
      obtain ⟨b,o,ds,k1,k2,k3,k4,k5⟩:=(h3 hn').2 hpos
      exact ⟨b,o,ds,k1,k2,k3,k4,fun i hi=>by simpa only [Kz] using Zp.names hf e (ov:=[]) rfl (k5 i hi)⟩
  | .arr n e,_,ov,_,hp,h=>by
    simp only [Zp] at h ⊢
    exact ⟨h.1,h.2.1,fun i hi=>by rw [Rz]; exact Zp.names hf e (Tt hp) (h.2.2 i hi)⟩
  | .st fs,_,_,_,hp,h=>by simp only [Zp] at h ⊢; exact Xt.names hf fs hp h
theorem Xt.names (hf:∀ g s,p g=true→ρ g=some s→ρ' (f g)=some s):(fs:List Ty)→{j:Nat}→{x:Hh fs}→{ov:Ov}→{cs:List Value}→Ui p ov=true→Xt A ρ w fs j x ov cs→Xt A ρ' w fs j x (Kz f ov) cs
  | [],_,_,_,_,_,h=>by simpa only [Xt] using h
  | t :: r,_,_,_,_,hp,h=>by
    simp only [Xt] at h ⊢
    exact ⟨by rw [Rz]; exact Zp.names hf t (Tt hp) h.1,Xt.names hf r hp h.2⟩
end
mutual
theorem Zn.names (hf:∀ g s,p g=true→ρ g=some s→ρ' (f g)=some s):(u:SV)→{v:Value}→Uy p u=true→Zn A ρ w u v→Zn A ρ' w (Vk f u) v
  | .dat τ x ov,_,hp,h=>by
    simp only [Zn,Vk,Uy] at h hp ⊢
    obtain ⟨cs,h1,h2⟩:=h
    exact ⟨cs,Zp.names hf τ hp h1,h2⟩
  | .ptr g q,_,hp,h=>by
    simp only [Zn,Vk,Uy] at h hp ⊢
    obtain ⟨s,h1,h2⟩:=h
    exact ⟨s,hf _ _ hp h1,h2⟩
  | .ref τ x,_,hp,h=>by
    simp only [Zn,Vk,Uy] at h hp ⊢
    obtain ⟨b,o,cs,h1,h2,h3,h4⟩:=h
    exact ⟨b,o,cs,h1,h2,h3,by simpa only [Kz] using Zp.names hf τ (ov:=[]) rfl h4⟩
  | .refv u,_,hp,h=>by
    simp only [Zn,Vk,Uy] at h hp ⊢
    obtain ⟨b,o,u',h1,h2,h3,h4⟩:=h
    exact ⟨b,o,u',h1,h2,h3,Zn.names hf u hp h4⟩
  | .selfc c us,_,hp,h=>by
    simp only [Zn,Vk,Uy] at h hp ⊢
    obtain ⟨b,o,h1,h2,vs,h3,h4⟩:=h
    exact ⟨b,o,h1,h2,vs,h3,Zt.names hf us hp h4⟩
  | .elp g i q,_,hp,h=>by
    simp only [Zn,Vk,Uy] at h hp ⊢
    obtain ⟨s,h1,h2⟩:=h
    exact ⟨s,hf _ _ hp h1,h2⟩
  | .clo c caps,_,hp,h=>by
    simp only [Zn,Vk,Uy] at h hp ⊢
    obtain ⟨vs,h1,h2⟩:=h
    exact ⟨vs,h1,Zt.names hf caps hp h2⟩
  | .tup us,_,hp,h=>by
    simp only [Zn,Vk,Uy] at h hp ⊢
    obtain ⟨vs,h1,h2⟩:=h
    exact ⟨vs,h1,Zt.names hf us hp h2⟩
  | .slv us,_,hp,h=>by
    simp only [Zn,Vk,Uy] at h hp ⊢
    obtain ⟨a,n,c,h1,h2,vs,h3,h5,⟨z,h6⟩,h4⟩:=h
    have:∀ l:List SV,(Kh f l).length=l.length:=fun l=>by induction l <;> simp_all [Kh]
    refine ⟨a,n,c,h1,by rw [this]; exact h2,vs,Zt.names hf us hp h3,Da f us vs h5,⟨z,fun u hu => ?_⟩,h4⟩
    obtain ⟨u',k1,rfl⟩:=AB1 hu
    rw [R5]; exact h6 u' k1
  | .fmap ks us,_,hp,h=>by
    simp only [Zn,Vk,Uy] at h hp ⊢
    obtain ⟨b,es,c,h1,h2,h3,h4,h5⟩:=h
    exact ⟨b,es,c,h1,h2,h3,h4,Zt.names hf us hp h5⟩
  | .agv us,_,hp,h=>by
    simp only [Zn,Vk,Uy] at h hp ⊢
    obtain ⟨vs,h1,h2,h3⟩:=h
    exact ⟨vs,h1,Zt.names hf us hp h2,Da f us vs h3⟩
  | .nilfn,_,_,h=>by simpa only [Zn,Vk] using h
  | .glo _,_,_,h=>by simpa only [Zn,Vk] using h
  | .und,_,_,h=>by simpa only [Zn,Vk] using h
  | .junk,_,_,_=>by simp only [Zn,Vk]
theorem Zt.names (hf:∀ g s,p g=true→ρ g=some s→ρ' (f g)=some s):(us:List SV)→{vs:List Value}→Nf p us=true→Zt A ρ w us vs→Zt A ρ' w (Kh f us) vs
  | [],_,_,h=>by simpa only [Zt,Kh] using h
  | u :: r,_,hp,h=>by
    simp only [Zt,Kh,Nf,Bool.and_eq_true] at h hp ⊢
    obtain ⟨v,vs',h1,h2,h3⟩:=h
    exact ⟨v,vs',h1,Zn.names hf u hp.1 h2,Zt.names hf r hp.2 h3⟩
end
end names
theorem Fk:(ov:Ov)→Kz id ov=ov
  | []=>rfl
  | (_,some _) :: r=>by simp [Kz,Fk r]
  | (_,none) :: r=>by simp [Kz,Fk r]
mutual
theorem Fj:(u:SV)→Vk id u=u
  | .dat _ _ ov=>by simp [Vk,Fk ov]
  | .ptr _ _=>rfl
  | .ref _ _=>rfl
  | .refv u=>by simp [Vk,Fj u]
  | .selfc _ us=>by simp [Vk,T8 us]
  | .glo _=>rfl
  | .elp _ _ _=>rfl
  | .clo _ us=>by simp [Vk,T8 us]
  | .tup us=>by simp [Vk,T8 us]
  | .slv us=>by simp [Vk,T8 us]
  | .fmap _ us=>by simp [Vk,T8 us]
  | .agv us=>by simp [Vk,T8 us]
  | .nilfn=>rfl
  | .und=>rfl
  | .junk=>rfl
theorem T8:(us:List SV)→Kh id us=us
  | []=>rfl
  | u :: r=>by simp [Kh,Fj u,T8 r]
end
end Go.Proofs.YtmemggdjnfccfaaGreatDoor.Ghost
namespace Go.Proofs.YtmemggdjnfccfaaGreatDoor.Ghost
open Go
mutual
def W9:SV→Xb→Nat
  | .agv vs,i :: p=>Uh vs i p
  | _,_=>0
def Uh:List SV→Nat→Xb→Nat
  | [],_,_=>0
  | v :: _,0,p=>W9 v p
  | v :: r,n+1,p=>Jn v+Uh r n p
end
theorem We:(us:List SV)→(vs:List Value)→{A:Nat→Prop}→{ρ:Xk}→{w:World}→Zt A ρ w us vs→Tb us vs→(Yz vs).length=Hm us
  | [],_,_,_,_,h,_=>by simp only [Zt] at h; subst h; rfl
  | u :: r,_,_,_,_,h,hs=>by
    simp only [Zt] at h
    obtain ⟨v,vs',rfl,_,h3⟩:=h
    simp only [Tb] at hs
    simp only [Yz,List.length_append,Hm,Array.length_toList,hs.1,We r vs' h3 hs.2.2]
theorem Zn.size {A:Nat→Prop} {ρ:Xk} {w:World}:{u:SV}→{v:Value}→u≠.junk→Zn A ρ w u v→v.cells.size=Jn u
  | .dat τ x ov,v,_,h=>by
    simp only [Zn] at h
    obtain ⟨cs,h1,rfl⟩:=h
    rw [← Array.length_toList,Vd h1,Zp.length τ h1]; rfl
  | .ptr g p,v,_,h=>by
    simp only [Zn] at h
    obtain ⟨s,_,_,rfl⟩:=h
    cases s.mp <;> rfl
  | .ref τ x,v,_,h=>by
    simp only [Zn] at h
    obtain ⟨_,_,_,rfl,_⟩:=h; rfl
  | .refv u,v,_,h=>by
    simp only [Zn] at h
    obtain ⟨_,_,_,rfl,_⟩:=h; rfl
  | .selfc f us,v,_,h=>by
    simp only [Zn] at h
    obtain ⟨_,_,rfl,_⟩:=h; rfl
  | .glo k,v,_,h=>by
    simp only [Zn] at h
    subst h; rfl
  | .elp g i p,v,_,h=>by
    simp only [Zn] at h
    obtain ⟨_,_,_,_,_,rfl⟩:=h; rfl
  | .clo f caps,v,_,h=>by
    simp only [Zn] at h
    obtain ⟨_,rfl,_⟩:=h; rfl
  | .tup us,v,_,h=>by
    simp only [Zn] at h
    obtain ⟨_,rfl,_⟩:=h; rfl
  | .slv us,v,_,h=>by
    simp only [Zn] at h
    obtain ⟨_,_,_,rfl,_⟩:=h; rfl
  | .fmap ks us,v,_,h=>by
    simp only [Zn] at h
    obtain ⟨_,_,_,rfl,_⟩:=h; rfl
  | .agv us,v,_,h=>by
    simp only [Zn] at h
    obtain ⟨vs,rfl,h2,h3⟩:=h
    show (Yz vs).toArray.size=_
    rw [List.size_toArray,We us vs h2 h3]; rfl
  | .nilfn,v,_,h=>by simp only [Zn] at h; subst h; rfl
  | .und,v,_,h=>by simp only [Zn] at h; subst h; rfl
  | .junk,_,h,_=>absurd rfl h
mutual
theorem Zp.one {A:Nat→Prop} {ρ:Xk} {w:World}:(τ:Ty)→{x:den τ}→{ov:Ov}→{cs:List Value}→Zp A ρ w τ x ov cs→∀ c∈cs,c.oneCell'=true
  | .bool,_,_,_,h=>by simp only [Zp] at h; subst h; simp [Value.oneCell']
  | .int _,_,_,_,h=>by simp only [Zp] at h; subst h; simp [Value.oneCell']
  | .str,_,_,_,h=>by simp only [Zp] at h; subst h; simp [Value.oneCell']
  | .sl _,_,_,_,h=>by simp only [Zp] at h; obtain ⟨_,_,_,rfl,_⟩:=h; simp [Value.oneCell']
  | .arr n e,_,_,cs,h=>by
    simp only [Zp] at h
    intro c hc
    obtain ⟨k,hk,rfl⟩:=List.getElem_of_mem hc
    have hk':k<n * Zi e:=by rw [← h.2.1]; exact hk
    have hpos:0<Zi e:=by
      rcases Nat.eq_zero_or_pos (Zi e) with h0 | h0
      · rw [h0] at hk'; simp at hk'
      · exact h0
    have hi:k / Zi e<n:=Nat.div_lt_of_lt_mul (by rw [Nat.mul_comm]; exact hk')
    refine Zp.one e (h.2.2 _ hi) _ ?_
    have hm:=Nat.div_add_mod k (Zi e)
    have hlt:=Nat.mod_lt k hpos
    rw [List.mem_iff_getElem?]
    refine ⟨k % Zi e,?_⟩
    rw [List.getElem?_take_of_lt hlt,List.getElem?_drop,Nat.mul_comm,hm,List.getElem?_eq_getElem hk]
  | .st fs,_,_,_,h=>by simp only [Zp] at h; exact Xt.one fs h
theorem Xt.one {A:Nat→Prop} {ρ:Xk} {w:World}:(fs:List Ty)→{j:Nat}→{x:Hh fs}→{ov:Ov}→{cs:List Value}→Xt A ρ w fs j x ov cs→∀ c∈cs,c.oneCell'=true
  | [],_,_,_,_,h=>by simp only [Xt] at h; subst h; simp
  | t :: r,_,_,_,cs,h=>by
    simp only [Xt] at h
    intro c hc
    rw [← List.take_append_drop (Zi t) cs,List.mem_append] at hc
    rcases hc with hc | hc
    · exact Zp.one t h.1 c hc
    · exact Xt.one r h.2 c hc
end
theorem An:(us:List SV)→(vs:List Value)→us.length=vs.length→Tb us vs→∀ c∈Yz vs,c.oneCell'=true
  | [],[],_,_=>by simp [Yz]
  | u :: r,v :: s,hl,h=>by
    simp only [Tb] at h
    intro c hc
    simp only [Yz,List.mem_append] at hc
    rcases hc with hc | hc
    · exact h.2.1 c hc
    · exact An r s (by simpa using hl) h.2.2 c hc
theorem Zt.len {A:Nat→Prop} {ρ:Xk} {w:World}:(us:List SV)→{vs:List Value}→Zt A ρ w us vs→us.length=vs.length
  | [],_,h=>by simp only [Zt] at h; subst h; rfl
  | u :: r,_,h=>by
    simp only [Zt] at h
    obtain ⟨v,vs',rfl,_,h3⟩:=h
    simp [Zt.len r h3]
theorem Zn.one {A:Nat→Prop} {ρ:Xk} {w:World} {u:SV} {v:Value} {n:Nat} (hs:Gu n u=true) (h:Zn A ρ w u v):∀ c∈v.cells.toList,c.oneCell'=true:=by
  cases u with
  | dat τ x ov =>
    simp only [Zn] at h
    obtain ⟨cs,h1,rfl⟩:=h
    rw [Vd h1]
    exact Zp.one τ h1
  | ptr g p =>
    simp only [Zn] at h
    obtain ⟨s,_,_,rfl⟩:=h
    cases s.mp <;> simp [Value.cells,Value.oneCell']
  | ref τ x =>
    simp only [Zn] at h
    obtain ⟨_,_,_,rfl,_⟩:=h; simp [Value.cells,Value.oneCell']
  | refv u =>
    simp only [Zn] at h
    obtain ⟨_,_,_,rfl,_⟩:=h; simp [Value.cells,Value.oneCell']
  | selfc f us =>
    simp only [Zn] at h
    obtain ⟨_,_,rfl,_⟩:=h; simp [Value.cells,Value.oneCell']
  | glo k =>
    simp only [Zn] at h
    subst h; simp [Value.cells,Value.oneCell']
  | elp g i p =>
    simp only [Zn] at h
    obtain ⟨_,_,_,_,_,rfl⟩:=h; simp [Value.cells,Value.oneCell']
  | clo f caps =>
    simp only [Zn] at h
    obtain ⟨_,rfl,_⟩:=h; simp [Value.cells,Value.oneCell']
  | slv us =>
    simp only [Zn] at h
    obtain ⟨_,_,_,rfl,_⟩:=h; simp [Value.cells,Value.oneCell']
  | fmap ks us =>
    simp only [Zn] at h
    obtain ⟨_,_,_,rfl,_⟩:=h; simp [Value.cells,Value.oneCell']
  | agv us =>
    simp only [Zn] at h
    obtain ⟨vs,rfl,h2,h3⟩:=h
    exact An us vs (Zt.len us h2) h3
  | nilfn=>simp only [Zn] at h; subst h; simp [Value.cells,Value.oneCell']
  | und=>simp [Gu] at hs
  | tup us=>simp [Gu] at hs
  | junk=>simp [Gu] at hs
mutual
theorem Zn.getV {A:Nat→Prop} {ρ:Xk} {w:World}:(u:SV)→{p:Xb}→{v:Value}→{x:SV}→Zn A ρ w u v→Ghost.getV u p=some x →
    ∃ v',Zn A ρ w x v'∧v'.cells.toList=cut v.cells.toList (W9 u p) v'.cells.size
  | u,[],v,x,h,hg=>by
    have:u=x:=by cases u <;> simpa [Ghost.getV] using hg
    subst this
    refine ⟨v,h,?_⟩
    have:W9 u []=0:=by cases u <;> rfl
    rw [this,AIh]; simp
  | .agv us,i :: p,v,x,h,hg=>by
    simp only [Zn] at h
    obtain ⟨vs,rfl,h2,h3⟩:=h
    simp only [Ghost.getV] at hg
    obtain ⟨v',k1,k2⟩:=Zt.getV us h2 h3 hg
    exact ⟨v',k1,by simpa only [W9,Value.cells] using k2⟩
  | .dat _ _ _,_ :: _,_,_,_,hg=>by simp [Ghost.getV] at hg
  | .ptr _ _,_ :: _,_,_,_,hg=>by simp [Ghost.getV] at hg
  | .ref _ _,_ :: _,_,_,_,hg=>by simp [Ghost.getV] at hg
  | .refv _,_ :: _,_,_,_,hg=>by simp [Ghost.getV] at hg
  | .selfc _ _,_ :: _,_,_,_,hg=>by simp [Ghost.getV] at hg
  | .glo _,_ :: _,_,_,_,hg=>by simp [Ghost.getV] at hg
  | .elp _ _ _,_ :: _,_,_,_,hg=>by simp [Ghost.getV] at hg
  | .clo _ _,_ :: _,_,_,_,hg=>by simp [Ghost.getV] at hg
  | .tup _,_ :: _,_,_,_,hg=>by simp [Ghost.getV] at hg
  | .slv _,_ :: _,_,_,_,hg=>by simp [Ghost.getV] at hg
  | .fmap _ _,_ :: _,_,_,_,hg=>by simp [Ghost.getV] at hg
  | .nilfn,_ :: _,_,_,_,hg=>by simp [Ghost.getV] at hg
  | .und,_ :: _,_,_,_,hg=>by simp [Ghost.getV] at hg
  | .junk,_ :: _,_,_,_,hg=>by simp [Ghost.getV] at hg
theorem Zt.getV {A:Nat→Prop} {ρ:Xk} {w:World}:(us:List SV)→{i:Nat}→{p:Xb}→{vs:List Value}→{x:SV}→Zt A ρ w us vs→Tb us vs→getV.getVL us i p=some x →
    ∃ v',Zn A ρ w x v'∧v'.cells.toList=cut (Yz vs) (Uh us i p) v'.cells.size
  | [],_,_,_,_,_,_,hg=>by simp [getV.getVL] at hg
  | u :: r,0,p,vs,x,h,hs,hg=>by
    simp only [Zt] at h
    obtain ⟨v,vs',rfl,h2,h3⟩:=h
    simp only [getV.getVL] at hg
    obtain ⟨v',k1,k2⟩:=Zn.getV u h2 hg
    refine ⟨v',k1,?_⟩
    rw [k2]
    simp only [Uh,Yz]
    refine List.ext_getElem? fun k => ?_
    have hl:v'.cells.size≤v.cells.size - W9 u p∨True:=.inr trivial
    have k3:(cut v.cells.toList (W9 u p) v'.cells.size).length=v'.cells.size:=by rw [← k2]; simp
    have k4:v'.cells.size=min v'.cells.size (v.cells.size - W9 u p):=by
      unfold cut at k3
      simp only [List.length_take,List.length_drop,Array.length_toList] at k3
      omega
    rw [Qa,Qa]
    by_cases hk:k<v'.cells.size
    · simp only [hk,if_true]
      rw [List.getElem?_append_left (by simp only [Array.length_toList]; omega)]
    · simp only [hk,if_false]
  | u :: r,n+1,p,vs,x,h,hs,hg=>by
    simp only [Zt] at h
    obtain ⟨v,vs',rfl,h2,h3⟩:=h
    simp only [Tb] at hs
    simp only [getV.getVL] at hg
    obtain ⟨v',k1,k2⟩:=Zt.getV r h3 hs.2.2 hg
    refine ⟨v',k1,?_⟩
    rw [k2]
    simp only [Uh,Yz]
    unfold cut
    have hz:List.drop v.cells.size v.cells.toList=[]:=List.drop_eq_nil_of_le (by simp)
    rw [← hs.1,← List.drop_drop,List.drop_append_of_le_length (by simp),hz,List.nil_append]
end
def Xs (A:Nat→Prop) (ρ:Xk) (w:World) (κ ν:Ty):List (den κ×den ν)→List MapEntry→Prop
  | [],es=>es=[]
  | (k,v) :: r,es=>∃ e es',es=e :: es'∧(∃ cs,Zp A ρ w κ k [] cs∧e.key=mkV κ cs)∧(∃ cs,Zp A ρ w ν v [] cs∧e.val=mkV ν cs)∧Xs A ρ w κ ν r es'
def ACk (es:List MapEntry) (c:Nat):Prop:=c=es.length∧∀ (j:Nat) e,es[j]?=some e→e.born=j
def Own (own:Nat→Option Nat) (w:World) (g:Nat) (s:He) (cs:List Value):Prop :=
  own s.b=some g∧w.rangeAt s.b 0 cs∧w.there s.b 0 cs.length
def AD8 (A:Nat→Prop) (w:World) (s:He) (cs:List Value):Prop:=A s.b∧w.rangeAt s.b 0 cs
def Tw (A:Nat→Prop) (ρ:Xk) (w:World) (g:Nat) (τ:Ty) (x:den τ) (ov:Ov) (M:He→List Value→Prop):Prop :=
  ∃ s cs,ρ g=some s∧s.mp=false∧s.off=Jm τ∧s.ok=okP τ∧M s cs∧Zp A ρ w τ x ov cs
def okV (u:SV) (p:Xb):Prop:=∃ x,getV u p=some x
def U8 (A:Nat→Prop) (ρ:Xk) (w:World) (g:Nat) (u:SV) (M:He→List Value→Prop):Prop :=
  ∃ s v,ρ g=some s∧s.mp=false∧s.off=W9 u∧s.ok=okV u∧u≠.junk∧M s (Value.cells v).toList∧Zn A ρ w u v
def V2 (A:Nat→Prop) (ρ:Xk) (w:World) (g:Nat) (e:Ty) (l:List (den e)) (M:He→List Value→Prop):Prop :=
  ∃ s,ρ g=some s∧s.mp=false∧s.es=Zi e∧0<Zi e∧s.off=Jm e∧s.ok=okP e∧List.length l=s.len∧s.len≤s.cap ∧
    (0<s.cap→∃ cs,cs.length=s.cap * s.es∧M s cs∧∀ i,i<s.len→Zp A ρ w e (List.getD l i (dft e)) [] (cut cs (i * s.es) s.es))
def J4 (A:Nat→Prop) (ρ:Xk) (own:Nat→Option Nat) (w:World) (g:Nat):Obj→Prop
  | .box τ x ov=>Tw A ρ w g τ x ov (Own own w g)
  | .boxv u=>U8 A ρ w g u (Own own w g)
  | .fbox τ x ov=>Tw A ρ w g τ x ov (AD8 A w)
  | .fboxv u=>U8 A ρ w g u (AD8 A w)
  | .arr e l=>V2 A ρ w g e l (Own own w g)
  | .frz e l=>V2 A ρ w g e l (AD8 A w)
  | .map κ ν l=>∃ s es c,ρ g=some s∧s.mp=true∧own s.b=some g∧(∀ p,s.ok p↔p=[])∧w.heap[s.b]?=some (.map es c)∧Xs A ρ w κ ν l es.toList∧ACk es.toList c
  | .hid=>True
  | .dead=>True
  | .none=>ρ g=none
theorem Xs.mono {A A':Nat→Prop} {ρ ρ':Xk} {w w':World} (hA:∀ b,A b→A' b) (hρ:∀ g s,ρ g=some s→ρ' g=some s)
    (hw:∀ b,A b→w'.heap[b]?=w.heap[b]?) {κ ν:Ty}:{l:List (den κ×den ν)}→{es:List MapEntry}→Xs A ρ w κ ν l es→Xs A' ρ' w' κ ν l es
  | [],_,h=>by simpa only [Xs] using h
  | (k,v) :: r,_,h=>by
    simp only [Xs] at h ⊢
    obtain ⟨e,es',h1,⟨c1,h2,h3⟩,⟨c2,h4,h5⟩,h6⟩:=h
    exact ⟨e,es',h1,⟨c1,Zp.mono hA hρ hw κ h2,h3⟩,⟨c2,Zp.mono hA hρ hw ν h4,h5⟩,Xs.mono hA hρ hw h6⟩
theorem J4.mono {A A':Nat→Prop} {ρ ρ':Xk} {own own':Nat→Option Nat} {w w':World} {g:Nat} (hA:∀ b,A b→A' b) (hρ:∀ g s,ρ g=some s→ρ' g=some s)
    (hw:∀ b,A b∨own b=some g→w'.heap[b]?=w.heap[b]?) (ho:∀ b,own b=some g→own' b=some g) (hn:ρ g=none→ρ' g=none):{o:Obj}→J4 A ρ own w g o→J4 A' ρ' own' w' g o
  | .box τ x ov,h=>by
    simp only [J4,Tw] at h ⊢
    obtain ⟨s,cs,h1,h2,h3,h4,⟨m1,m2,m3⟩,h5⟩:=h
    exact ⟨s,cs,hρ _ _ h1,h2,h3,h4,⟨ho _ m1,Yi (hw _ (.inr m1)) m2,Wv (hw _ (.inr m1)) m3⟩,Zp.mono hA hρ (fun b hb=>hw b (.inl hb)) τ h5⟩
  | .boxv u,h=>by
    simp only [J4,U8] at h ⊢
    obtain ⟨s,cs,h1,h2,h3,h4,h6,⟨m1,m2,m3⟩,h5⟩:=h
    exact ⟨s,cs,hρ _ _ h1,h2,h3,h4,h6,⟨ho _ m1,Yi (hw _ (.inr m1)) m2,Wv (hw _ (.inr m1)) m3⟩,Zn.mono hA hρ (fun b hb=>hw b (.inl hb)) u h5⟩
  | .fbox τ x ov,h=>by
    simp only [J4,Tw] at h ⊢
    obtain ⟨s,cs,h1,h2,h3,h4,⟨m1,m2⟩,h5⟩:=h
    exact ⟨s,cs,hρ _ _ h1,h2,h3,h4,⟨hA _ m1,Yi (hw _ (.inl m1)) m2⟩,Zp.mono hA hρ (fun b hb=>hw b (.inl hb)) τ h5⟩
  | .fboxv u,h=>by
    simp only [J4,U8] at h ⊢
    obtain ⟨s,cs,h1,h2,h3,h4,h6,⟨m1,m2⟩,h5⟩:=h
    exact ⟨s,cs,hρ _ _ h1,h2,h3,h4,h6,⟨hA _ m1,Yi (hw _ (.inl m1)) m2⟩,Zn.mono hA hρ (fun b hb=>hw b (.inl hb)) u h5⟩
  | .arr e l,h=>by
    simp only [J4,V2] at h ⊢
    obtain ⟨s,h1,h2,h3,h4,h5,h6,h7,h8,h9⟩:=h
    refine ⟨s,hρ _ _ h1,h2,h3,h4,h5,h6,h7,h8,fun hc => ?_⟩
    obtain ⟨cs,k1,⟨m1,m2,m3⟩,k2⟩:=h9 hc
    exact ⟨cs,k1,⟨ho _ m1,Yi (hw _ (.inr m1)) m2,Wv (hw _ (.inr m1)) m3⟩,fun i hi=>Zp.mono hA hρ (fun b hb=>hw b (.inl hb)) e (k2 i hi)⟩
  | .frz e l,h=>by
    simp only [J4,V2] at h ⊢
    obtain ⟨s,h1,h2,h3,h4,h5,h6,h7,h8,h9⟩:=h
    refine ⟨s,hρ _ _ h1,h2,h3,h4,h5,h6,h7,h8,fun hc => ?_⟩
    obtain ⟨cs,k1,⟨m1,m2⟩,k2⟩:=h9 hc
    exact ⟨cs,k1,⟨hA _ m1,Yi (hw _ (.inl m1)) m2⟩,fun i hi=>Zp.mono hA hρ (fun b hb=>hw b (.inl hb)) e (k2 i hi)⟩
  | .map κ ν l,h=>by
    simp only [J4] at h ⊢
    obtain ⟨s,es,c,h1,h2,h3,h4,h5,h6,h7⟩:=h
    exact ⟨s,es,c,hρ _ _ h1,h2,ho _ h3,h4,by rw [hw _ (.inr h3)]; exact h5,Xs.mono hA hρ (fun b hb=>hw b (.inl hb)) h6,h7⟩
  | .hid,_=>trivial
  | .dead,_=>trivial
  | .none,h=>hn h
def Vj (A:Nat→Prop) (w:World):Prop:=∀ k d,Ps k=some d→A k∧∃ cs,Zp A (fun _=>none) w d.τ d.x [] cs∧w.rangeAt k 0 cs
theorem Vj.mono {A A':Nat→Prop} {w w':World} (hA:∀ b,A b→A' b) (hw:∀ b,A b→w'.heap[b]?=w.heap[b]?) (h:Vj A w):Vj A' w':=fun k d hd=>by
  obtain ⟨h1,cs,h2,h3⟩:=h k d hd
  exact ⟨hA k h1,cs,Zp.mono hA (fun _ _ h=>h) hw d.τ h2,Yi (hw k h1) h3⟩
structure Qh where
  w:World
  A:Nat→Prop
structure St (B:Nat) (w0:Qh) (A:Nat→Prop) (ρ:Xk) (own:Nat→Option Nat) (w:World) (h:Nat→Obj):Prop where
  objs:∀ g,J4 A ρ own w g (h g)
  apart:∀ b g,own b=some g→¬ A b
  old:∀ b,A b→b<w.heap.size
  oldO:∀ b g,own b=some g→b<w.heap.size
  base:∀ b g,own b=some g→B≤b
  below:RowKit.Below B w0.w w
  hB:B≤w0.w.heap.size
  imm:∀ b,A b→w0.A b∨B≤b
  names:∀ g,(∃ s,ρ g=some s)→h g≠.none
  glob:Vj A w
structure Yh (A:Nat→Prop) (ρ:Xk) (w:World) (A':Nat→Prop) (ρ':Xk) (w':World):Prop where
  hA:∀ b,A b→A' b
  hρ:∀ g s,ρ g=some s→ρ' g=some s
  hw:∀ b,A b→w'.heap[b]?=w.heap[b]?
theorem Yh.refl (A:Nat→Prop) (ρ:Xk) (w:World):Yh A ρ w A ρ w:=⟨fun _ h=>h,fun _ _ h=>h,fun _ _=>rfl⟩
theorem Yh.trans {A A' A'':Nat→Prop} {ρ ρ' ρ'':Xk} {w w' w'':World} (h:Yh A ρ w A' ρ' w') (k:Yh A' ρ' w' A'' ρ'' w''):Yh A ρ w A'' ρ'' w'' :=
  ⟨fun b hb=>k.hA b (h.hA b hb),fun g s hs=>k.hρ g s (h.hρ g s hs),fun b hb=>(k.hw b (h.hA b hb)).trans (h.hw b hb)⟩
theorem Yh.repV {A A':Nat→Prop} {ρ ρ':Xk} {w w':World} (h:Yh A ρ w A' ρ' w') {u:SV} {v:Value} (hv:Zn A ρ w u v):Zn A' ρ' w' u v :=
  Zn.mono h.hA h.hρ h.hw u hv
theorem Yh.repC {A A':Nat→Prop} {ρ ρ':Xk} {w w':World} (h:Yh A ρ w A' ρ' w') {τ:Ty} {x:den τ} {ov:Ov} {cs:List Value} (hv:Zp A ρ w τ x ov cs):Zp A' ρ' w' τ x ov cs :=
  Zp.mono h.hA h.hρ h.hw τ hv
theorem St.turn {B:Nat} {w0:Qh} {A A':Nat→Prop} {ρ ρ':Xk} {own own':Nat→Option Nat} {w w':World} {h h':Nat→Obj} (st:St B w0 A ρ own w h) (G:Nat→Prop)
    (hl:Yh A ρ w A' ρ' w') (hw:∀ b g,own b=some g→¬ G g→w'.heap[b]?=w.heap[b]?) (ho:∀ b g,own b=some g→¬ G g→own' b=some g)
    (hn:∀ g,¬ G g→ρ g=none→ρ' g=none) (hh:∀ g,¬ G g→h' g=h g) (hG:∀ g,G g→J4 A' ρ' own' w' g (h' g)) (hGn:∀ g,G g→h' g≠.none)
    (hap:∀ b g,own' b=some g→¬ A' b) (hold:∀ b,A' b→b<w'.heap.size) (holdO:∀ b g,own' b=some g→b<w'.heap.size) (hbase:∀ b g,own' b=some g→B≤b)
    (hbelow:RowKit.Below B w w') (himm:∀ b,A' b→A b∨B≤b):St B w0 A' ρ' own' w' h' where
  glob:=st.glob.mono hl.hA hl.hw
  objs g:=by
    by_cases hg:G g
    · exact hG g hg
    · rw [hh g hg]
      refine J4.mono hl.hA hl.hρ (fun b hb => ?_) (fun b hb=>ho b g hb hg) (hn g hg) (st.objs g)
      rcases hb with hb | hb
      · exact hl.hw b hb
      · exact hw b g hb hg
  apart:=hap
  old:=hold
  oldO:=holdO
  base:=hbase
  below:=st.below.trans hbelow
  hB:=st.hB
  imm b hb:=(himm b hb).elim (st.imm b) .inr
  names g hg:=by
    by_cases hg':G g
    · exact hGn g hg'
    · rw [hh g hg']
      refine st.names g ?_
      cases hr:ρ g with
      | none=>obtain ⟨s,hs⟩:=hg; rw [hn g hg' hr] at hs; cases hs
      | some s=>exact ⟨s,rfl⟩
end Go.Proofs.YtmemggdjnfccfaaGreatDoor.Ghost
namespace Go.Proofs.YtmemggdjnfccfaaGreatDoor.Ghost
open Go
mutual
def zeroCells:Ty→List Value
  | .bool=>[.bool false]
  | .int k=>[.int k 0]
  | .str=>[.string ⟨#[]⟩]
  | .sl _=>[.slice none 0 0]
  | .arr n e=>Ce n (zeroCells e)
  | .st fs=>Gd fs
def Gd:List Ty→List Value
  | []=>[]
  | t :: r=>zeroCells t ++ Gd r
def Ce:Nat→List Value→List Value
  | 0,_=>[]
  | n+1,l=>l ++ Ce n l
end
def AGt:Value→Value→Bool
  | .bool a,.bool b=>a == b
  | .int k a,.int k' b=>decide (k=k') && decide (a=b)
  | .string a,.string b=>Nat.beq a.data.size 0 && Nat.beq b.data.size 0
  | .slice none 0 0,.slice none 0 0=>true
  | .nilFunc,.nilFunc=>true
  | _,_=>false
def De:List Value→List Value→Bool
  | [],[]=>true
  | a :: r,b :: s=>AGt a b && De r s
  | _,_=>false
theorem AOv:{a b:Value}→AGt a b=true→a=b
  | .bool a,.bool b,h=>by simp [AGt] at h; rw [h]
  | .int k a,.int k' b,h=>by simp [AGt] at h; rw [h.1,h.2]
  | .string a,.string b,h=>by
    simp only [AGt,Bool.and_eq_true] at h
    have h1:=Nat.eq_of_beq_eq_true h.1
    have h2:=Nat.eq_of_beq_eq_true h.2
    obtain ⟨⟨l⟩⟩:=a
    obtain ⟨⟨m⟩⟩:=b
    simp at h1 h2
    subst h1; subst h2; rfl
  | .slice none 0 0,.slice none 0 0,_=>rfl
  | .nilFunc,.nilFunc,_=>rfl
theorem M6:{a b:List Value}→De a b=true→a=b
  | [],[],_=>rfl
  | a :: r,b :: s,h=>by
    simp only [De,Bool.and_eq_true] at h
    rw [AOv h.1,M6 h.2]
def J0 (P:Program) (t:TypeId) (n:Nat):Bool:=match P.info? t with
  | some i=>Nat.beq i.size n
  | none=>false
mutual
def X1 (P:Program):Ty→TypeId→Bool
  | .bool,t=>(match P.underlying t with | some .bool=>true | _=>false)
  | .int k,t=>(match P.underlying t with | some (.int k')=>decide (k=k') | _=>false)
  | .str,t=>(match P.underlying t with | some .string=>true | _=>false)
  | .sl e,t=>(match P.underlying t with | some (.slice e')=>X1 P e e' && J0 P e' (Zi e) && Nat.blt 0 (Zi e) | _=>false)
  | .arr n e,t=>(match P.underlying t with | some (.array n' e')=>Nat.beq n' n && X1 P e e' && J0 P e' (Zi e) && Nat.blt 0 (Zi e) | _=>false)
  | .st fs,t=>(match P.underlying t with | some (.struct l)=>Jb P fs 0 l.toList | _=>false)
def Jb (P:Program):List Ty→Nat→List Field→Bool
  | [],_,[]=>true
  | t :: r,o,f :: s=>Nat.beq f.offset o && J0 P f.type (Zi t) && Nat.blt 0 (Zi t) && X1 P t f.type && Jb P r (o+Zi t) s
  | _,_,_=>false
end
def Ib (P:Program) (τ:Ty) (t:TypeId):Bool:=match P.info? t with
  | some i=>(match i.zero with | some (.agg cs)=>Um τ && De cs.toList (zeroCells τ) | some v => !(Um τ) && De [v] (zeroCells τ) | none=>false)
  | none=>false
theorem Ul {P:Program} {t:TypeId} {n:Nat} (h:J0 P t n=true):∃ i,P.info? t=some i∧i.size=n:=by
  unfold J0 at h
  split at h
  · rename_i i hi; exact ⟨i,hi,Nat.eq_of_beq_eq_true h⟩
  · cases h
theorem AH1 {P:Program} {t:TypeId} {n:Nat} (h:J0 P t n=true):(P.info? t).map (·.size)=some n:=by
  obtain ⟨i,h1,h2⟩:=Ul h
  rw [h1]; simp [h2]
theorem Vl {P:Program} {t:TypeId} {n:Nat} (h:J0 P t n=true) (w:World):(sizeOf t).run P w=.ok n w:=by
  obtain ⟨i,h1,h2⟩:=Ul h
  simp [sizeOf,typeInfo,h1,h2]
theorem G1 {P:Program} {t:TypeId} {i:TypeInfo} (h:P.info? t=some i) (w:World):(typeInfo t).run P w=.ok i w:=by
  simp [typeInfo,h]
theorem Dk {P:Program}:{τ:Ty}→{t:TypeId}→X1 P τ t=true→∃ d,P.underlying t=some d∧d.isRow=Um τ
  | .bool,_,h=>by simp only [X1] at h; split at h <;> simp_all [Um,TypeDesc.isRow]
  | .int k,_,h=>by simp only [X1] at h; split at h <;> simp_all [Um,TypeDesc.isRow]
  | .str,_,h=>by simp only [X1] at h; split at h <;> simp_all [Um,TypeDesc.isRow]
  | .sl e,_,h=>by simp only [X1] at h; split at h <;> simp_all [Um,TypeDesc.isRow]
  | .arr n e,_,h=>by simp only [X1] at h; split at h <;> simp_all [Um,TypeDesc.isRow]
  | .st fs,_,h=>by simp only [X1] at h; split at h <;> simp_all [Um,TypeDesc.isRow]
theorem AAa {P:Program} {t:TypeId} {d:TypeDesc} (h:P.underlying t=some d) (w:World):(isAgg t).run P w=.ok d.isRow w:=by
  unfold isAgg
  rw [Sem.run_bind,run_underlying h w]
  cases d <;> rfl
theorem Wx {P:Program} {τ:Ty} {t:TypeId} (h:Ib P τ t=true) (w:World):(zeroValue t).run P w=.ok (mkV τ (zeroCells τ)) w:=by
  unfold Ib at h
  cases hi:P.info? t with
  | none=>rw [hi] at h; cases h
  | some i =>
    simp only [hi] at h
    simp only [zeroValue,Sem.run_bind,G1 hi,Result.andThen_ok]
    cases hz:i.zero with
    | none=>simp [hz] at h
    | some v =>
      simp only [hz] at h
      have key:v=mkV τ (zeroCells τ):=by
        cases v with
        | agg cs =>
          simp only [Bool.and_eq_true] at h
          have:=M6 h.2
          unfold mkV
          rw [h.1,← this]
        | _ =>
          simp only [Bool.and_eq_true,Bool.not_eq_true'] at h
          have:=M6 h.2
          unfold mkV
          rw [h.1,← this]; rfl
      subst key
      rfl
theorem AFr (n:Nat) (l:List Value):(Ce n l).length=n * l.length:=by
  induction n with
  | zero=>simp [Ce]
  | succ n ih=>simp only [Ce,List.length_append,ih,Nat.add_mul,Nat.one_mul]; omega
theorem AEp (l:List Value):(n i:Nat)→i<n→cut (Ce n l) (i * l.length) l.length=l
  | 0,_,h=>by omega
  | n+1,0,_=>by simp [cut,Ce]
  | n+1,i+1,h=>by
    have:=AEp l n i (by omega)
    unfold cut at this ⊢
    rw [show (i+1) * l.length=l.length+i * l.length by rw [Nat.add_mul]; omega]
    simp only [Ce]
    rw [← List.drop_drop,List.drop_append_of_le_length (by omega),List.drop_length,List.nil_append]
    exact this
theorem Nv {α:Type} {n i:Nat} {x d:α} (h:i<n):(List.replicate n x).getD i d=x:=by
  rw [List.getD_eq_getElem?_getD,List.getElem?_replicate,if_pos h]; rfl
mutual
theorem Zp.zero (A:Nat→Prop) (ρ:Xk) (w:World):(τ:Ty)→Zp A ρ w τ (dft τ) [] (zeroCells τ)
  | .bool=>by simp only [Zp,dft,zeroCells]
  | .int k=>by simp only [Zp,dft,zeroCells]
  | .str=>by simp only [Zp,dft,zeroCells]
  | .sl e=>by
    simp only [Zp,zeroCells]
    exact ⟨none,0,0,rfl,by simp,fun _=>⟨rfl,by simp⟩⟩
  | .arr n e=>by
    have he:=Zp.zero A ρ w e
    have hl:=Zp.length e he
    simp only [Zp,zeroCells]
    refine ⟨by simp [dft],by rw [AFr,hl],fun i hi => ?_⟩
    have hc:=AEp (zeroCells e) n i hi
    rw [hl] at hc
    simp only [dft]
    change Zp A ρ w e _ _ (cut (Ce n (zeroCells e)) (i * Zi e) (Zi e))
    rw [Nv hi,hc]
    exact he
  | .st fs=>by simp only [Zp,zeroCells]; exact Xt.zero A ρ w fs 0
theorem Xt.zero (A:Nat→Prop) (ρ:Xk) (w:World):(fs:List Ty)→(j:Nat)→Xt A ρ w fs j (BJ5 fs) [] (Gd fs)
  | [],_=>by simp only [Xt,Gd]
  | t :: r,j=>by
    have ht:=Zp.zero A ρ w t
    have hl:=Zp.length t ht
    simp only [Xt,Gd]
    exact ⟨by rw [← hl,List.take_left]; exact ht,by rw [← hl,List.drop_left]; exact Xt.zero A ρ w r (j+1)⟩
end
def Mo:(τ:Ty)→den τ→Value→Bool
  | .bool,x,.bool b=>x == b
  | .int k,x,.int k' n=>decide (k=k') && decide (x=n)
  | .str,x,.string s=>decide (x.data.toList=s.data.toList)
  | .sl _,x,.slice _ 0 _=>List.isEmpty x
  | _,_,_=>false
def Xp:Opd→Operand→Bool
  | .t i,.tmp j=>Nat.beq i j
  | .g k,.global g=>Nat.beq k g
  | .c τ x,.const v=>Mo τ x v
  | .f f,.func g=>Nat.beq f g
  | .nf,.const .nilFunc=>true
  | _,_=>false
def J2:List Opd→List Operand→Bool
  | [],[]=>true
  | x :: r,y :: s=>Xp x y && J2 r s
  | _,_=>false
def Xo (A:Nat→Prop) (ρ:Xk) (w:World) (s:Nat→SV) (a:Act):Prop:=∀ i,Zn A ρ w (s i) (a.eval (.tmp i))
theorem AEn {A:Nat→Prop} {ρ:Xk} {w:World}:(τ:Ty)→(x:den τ)→(v:Value)→Mo τ x v=true→Zn A ρ w (.dat τ x []) v
  | .bool,x,.bool b,h=>by simp only [Mo,beq_iff_eq] at h; subst h; simp only [Zn,Zp]; exact ⟨_,rfl,rfl⟩
  | .int k,x,.int k' n,h=>by
    simp only [Mo,Bool.and_eq_true,decide_eq_true_eq] at h
    obtain ⟨rfl,rfl⟩:=h
    simp only [Zn,Zp]; exact ⟨_,rfl,rfl⟩
  | .str,x,.string s,h=>by
    simp only [Mo,decide_eq_true_eq] at h
    have:x=s:=by
      obtain ⟨⟨l⟩⟩:=x
      obtain ⟨⟨m⟩⟩:=s
      simpa using h
    subst this
    simp only [Zn,Zp]; exact ⟨_,rfl,rfl⟩
  | .sl e,x,.slice a 0 c,h=>by
    simp only [Mo,List.isEmpty_iff] at h
    subst h
    simp only [Zn,Zp]
    exact ⟨[.slice a 0 c],⟨a,0,c,rfl,by simp,fun _=>⟨rfl,by simp⟩⟩,rfl⟩
theorem Ya {A:Nat→Prop} {ρ:Xk} {w:World} {s:Nat→SV} {a:Act} (hs:Xo A ρ w s a):{x:Opd}→{y:Operand}→Xp x y=true→Zn A ρ w (evO s x) (a.eval y)
  | .t i,.tmp j,h=>by
    have:=Nat.eq_of_beq_eq_true (by simpa only [Xp] using h)
    subst this
    exact hs i
  | .c τ x,.const v,h=>AEn τ x v h
  | .f f,.func g,h=>by
    have:=Nat.eq_of_beq_eq_true (by simpa only [Xp] using h)
    subst this
    simp only [evO,Zn]
    exact ⟨[],rfl,by simp only [Zt]⟩
  | .nf,.const .nilFunc,_=>by simp only [evO,Zn]; rfl
  | .g k,.global g,h=>by
    have:=Nat.eq_of_beq_eq_true (by simpa only [Xp] using h)
    subst this
    simp only [evO,Zn]; rfl
theorem R3 {A:Nat→Prop} {ρ:Xk} {w:World} {s:Nat→SV} {a:Act} (hs:Xo A ρ w s a):{xs:List Opd}→{ys:List Operand}→J2 xs ys=true→Zt A ρ w (xs.map (evO s)) (ys.map a.eval)
  | [],[],_=>by simp only [List.map_nil,Zt]
  | x :: r,y :: t,h=>by
    simp only [J2,Bool.and_eq_true] at h
    simp only [List.map_cons,Zt]
    exact ⟨_,_,rfl,Ya hs h.1,R3 hs h.2⟩
end Go.Proofs.YtmemggdjnfccfaaGreatDoor.Ghost
namespace Go.Proofs.YtmemggdjnfccfaaGreatDoor.Ghost
open Go
def Yl (h:Nat→Obj):Eff→Nat→Obj
  | []=>h
  | (g,o) :: r=>Yl (fun i=>if i=g then o else h i) r
theorem To:(h:Y1)→(g i:Nat)→(o:Obj)→Xr (Pi h g o) i=if i=g then o else Xr h i
  | [],0,0,o=>by simp [Pi,Xr]
  | [],0,i+1,o=>by simp [Pi,Xr]
  | [],g+1,0,o=>by simp [Pi,Xr]
  | [],g+1,i+1,o=>by
    have:=To [] g i o
    simp only [Pi,Xr,this,Nat.add_right_cancel_iff]
  | x :: r,0,0,o=>by simp [Pi,Xr]
  | x :: r,0,i+1,o=>by simp [Pi,Xr]
  | x :: r,g+1,0,o=>by simp [Pi,Xr]
  | x :: r,g+1,i+1,o=>by
    have:=To r g i o
    simp only [Pi,Xr,this,Nat.add_right_cancel_iff]
theorem Ru (h:Y1):(e:Eff)→Xr (R7 h e)=Yl (Xr h) e
  | []=>rfl
  | (g,o) :: r=>by
    have h1:=Ru (Pi h g o) r
    simp only [R7,Yl,h1]
    congr 1
    funext i
    rw [To]
def Zy (P:Program) (o:Oper) (a:Act) (w:World) (B:Nat) (w0:Qh) (A:Nat→Prop) (ρ:Xk) (v:SV) (h':Nat→Obj):Prop :=
  ∀ (next:Act→World→Prop) (Q:Exit→Act→World→Prop),
    (∀ v' w' A' ρ' own',St B w0 A' ρ' own' w' h'→Yh A ρ w A' ρ' w'→Zn A' ρ' w' v v'→next (a.put o.dst v') w')→o.wp P a w next Q
section
variable {P:Program} {o:Oper} {a:Act} {w:World} {B:Nat} {w0:Qh} {A:Nat→Prop} {ρ:Xk} {own:Nat→Option Nat} {h:Nat→Obj} {s:Nat→SV}
theorem Zy.pure {v:SV} {v':Value} (st:St B w0 A ρ own w h) (he:(execOp a.eval o).run P w=.ok (.value v') w) (hv:Zn A ρ w v v') :
    Zy P o a w B w0 A ρ v h:=fun next Q K=>by
  unfold Oper.wp; rw [he]; exact K v' w A ρ own st (Yh.refl ..) hv
theorem Zy.value {v:SV} {v':Value} {w':World} {A':Nat→Prop} {ρ':Xk} {own':Nat→Option Nat} {h':Nat→Obj} (he:(execOp a.eval o).run P w=.ok (.value v') w')
    (st:St B w0 A' ρ' own' w' h') (hl:Yh A ρ w A' ρ' w') (hv:Zn A' ρ' w' v v'):Zy P o a w B w0 A ρ v h':=fun next Q K=>by
  unfold Oper.wp; rw [he]; exact K v' w' A' ρ' own' st hl hv
theorem Zy.skip {v:SV} {w':World} {A':Nat→Prop} {ρ':Xk} {own':Nat→Option Nat} {h':Nat→Obj} (he:(execOp a.eval o).run P w=.ok .skip w')
    (st:St B w0 A' ρ' own' w' h') (hl:Yh A ρ w A' ρ' w') (hv:Zn A' ρ' w' v undef):Zy P o a w B w0 A ρ v h':=fun next Q K=>by
  unfold Oper.wp; rw [he]; exact K undef w' A' ρ' own' st hl hv
theorem Ga {k:IntKind} {n:Int} {ov:Ov} {v:Value} (h:Zn A ρ w (.dat (.int k) n ov) v):v=.int k n:=by
  simp only [Zn,Zp] at h; obtain ⟨_,rfl,rfl⟩:=h; rfl
theorem Kc {b:Bool} {ov:Ov} {v:Value} (h:Zn A ρ w (.dat .bool b ov) v):v=.bool b:=by
  simp only [Zn,Zp] at h; obtain ⟨_,rfl,rfl⟩:=h; rfl
theorem Gv {k:IntKind} {n:Int} {ov:Ov}:Zn A ρ w (.dat (.int k) n ov) (.int k n):=by
  simp only [Zn,Zp]; exact ⟨_,rfl,rfl⟩
theorem H1 {b:Bool} {ov:Ov}:Zn A ρ w (.dat .bool b ov) (.bool b):=by
  simp only [Zn,Zp]; exact ⟨_,rfl,rfl⟩
theorem AF9 {v:Value} (h:Zn A ρ w .und v):v=undef:=by simpa only [Zn] using h
def AC0 (o:Oper) (x:Opd):Bool:=match o.op with
  | .move y=>Xp x y
  | .assign y=>Xp x y
  | _=>false
variable (st:St B w0 A ρ own w h) (hs:Xo A ρ w s a)
include st hs
theorem AKa {x:Opd} (hc:AC0 o x=true):Zy P o a w B w0 A ρ (evO s x) h:=by
  unfold AC0 at hc
  split at hc
  · rename_i y hy
    exact Zy.pure st (by simp [execOp,hy]) (Ya hs hc)
  · rename_i y hy
    exact Zy.pure st (by simp [execOp,hy]) (Ya hs hc)
  · cases hc
def Co (o:Oper) (c x y:Opd):Bool:=match o.op with
  | .pick c' x' y'=>Xp c c' && Xp x x' && Xp y y'
  | _=>false
omit st hs in
theorem AC3 {c x y:Opd} (hc:Co o c x y=true):∃ c' x' y',o.op=.pick c' x' y'∧Xp c c'=true∧Xp x x'=true∧Xp y y'=true:=by
  unfold Co at hc
  split at hc
  · rename_i c' x' y' ho
    simp only [Bool.and_eq_true] at hc
    exact ⟨c',x',y',ho,hc.1.1,hc.1.2,hc.2⟩
  · cases hc
theorem Ek {c x y:Opd} (hc:Co o c x y=true) {t:Bool} {ov:Ov} (ht:evO s c=.dat .bool t ov) {v:SV}
    (hv:∀ u u',Zn A ρ w (evO s x) u→Zn A ρ w (evO s y) u'→Zn A ρ w v (if t then u else u')):Zy P o a w B w0 A ρ v h:=by
  obtain ⟨c',x',y',ho,h1,h2,h3⟩:=AC3 hc
  have k1:=Ya hs h1
  rw [ht] at k1
  have k1:=Kc k1
  exact Zy.pure st (by simp [execOp,ho,k1,asBool]) (hv _ _ (Ya hs h2) (Ya hs h3))
def ACr (o:Oper) (op:BinOp) (x y:Opd):Bool:=match o.op with
  | .binOp op' _ x' y' _=>decide (op'=op) && Xp x x' && Xp y y'
  | _=>false
omit st hs in
theorem AEj {op:BinOp} {x y:Opd} (hc:ACr o op x y=true):∃ t x' y' t',o.op=.binOp op t x' y' t'∧Xp x x'=true∧Xp y y'=true:=by
  unfold ACr at hc
  split at hc
  · rename_i op' t x' y' t' ho
    simp only [Bool.and_eq_true,decide_eq_true_eq] at hc
    obtain ⟨⟨rfl,h1⟩,h2⟩:=hc
    exact ⟨t,x',y',t',ho,h1,h2⟩
  · cases hc
omit st hs in
theorem Ci (op:BinOp) (t:TypeId) (x y:Operand) (k k':IntKind) (m n:Int):(eqGuard op t x y (.int k m) (.int k' n)).run P w=.ok () w:=by
  unfold eqGuard; cases op <;> rfl
omit st hs in
theorem P1 (op:BinOp) (t:TypeId) (x y:Operand) (m n:Bool):(eqGuard op t x y (.bool m) (.bool n)).run P w=.ok () w:=by
  unfold eqGuard; cases op <;> rfl
omit st hs in
theorem O7 (op:BinOp) (t:TypeId) (x y:Operand) (m n:ByteArray):(eqGuard op t x y (.string m) (.string n)).run P w=.ok () w:=by
  unfold eqGuard; cases op <;> rfl
theorem ANa {R:Type} {op:BinOp} {x y:Opd} {K:SV→Option R} {r:R}
    (hc:ACr o op x y=true) (hg:AJi op (evO s x) (evO s y) K=some r) :
    ∃ v,K v=some r∧Zy P o a w B w0 A ρ v h:=by
  obtain ⟨t,x',y',t',ho,h1,h2⟩:=AEj hc
  have k1:=Ya hs h1
  have k2:=Ya hs h2
  unfold AJi at hg
  split at hg
  · rename_i k m ov k' n ov' e1 e2
    rw [e1] at k1; rw [e2] at k2
    have k1:=Ga k1
    have k2:=Ga k2
    split at hg
    · rename_i hk
      subst hk
      have fin:∀ v:Value,(Go.binOp op t (.int k m) (.int k n)).run P w=.ok v w→(execOp a.eval o).run P w=.ok (.value v) w:=fun v hv=>by
        simp only [execOp,ho,k1,k2,Sem.run_bind,Ci,Result.andThen_ok,hv,Sem.run_pure]
      unfold C3 at hg
      split at hg
      · exact ⟨_,hg,Zy.pure st (fin _ (by simp [Go.binOp,Op.intArith])) Gv⟩
      · exact ⟨_,hg,Zy.pure st (fin _ (by simp [Go.binOp,Op.intArith])) Gv⟩
      · exact ⟨_,hg,Zy.pure st (fin _ (by simp [Go.binOp,Op.intArith])) Gv⟩
      · split at hg
        · cases hg
        · rename_i hn
          exact ⟨_,hg,Zy.pure st (fin _ (by simp [Go.binOp,Op.intDiv,hn])) Gv⟩
      · split at hg
        · cases hg
        · rename_i hn
          exact ⟨_,hg,Zy.pure st (fin _ (by simp [Go.binOp,Op.intDiv,hn])) Gv⟩
      · exact ⟨_,hg,Zy.pure st (fin _ (by simp [Go.binOp,Op.intCmp]; try rfl)) H1⟩
      · exact ⟨_,hg,Zy.pure st (fin _ (by simp [Go.binOp,Op.intCmp,bne]; try rfl)) H1⟩
      · exact ⟨_,hg,Zy.pure st (fin _ (by simp [Go.binOp,Op.intCmp]; try rfl)) H1⟩
      · exact ⟨_,hg,Zy.pure st (fin _ (by simp [Go.binOp,Op.intCmp]; try rfl)) H1⟩
      · exact ⟨_,hg,Zy.pure st (fin _ (by simp [Go.binOp,Op.intCmp]; try rfl)) H1⟩
      · exact ⟨_,hg,Zy.pure st (fin _ (by simp [Go.binOp,Op.intCmp]; try rfl)) H1⟩
      · cases hg
    · cases hg
  · cases hg
end
end Go.Proofs.YtmemggdjnfccfaaGreatDoor.Ghost
namespace Go.Proofs.YtmemggdjnfccfaaGreatDoor.Ghost
open Go
section
variable {P:Program} {o:Oper} {a:Act} {w:World} {B:Nat} {w0:Qh} {A:Nat→Prop} {ρ:Xk} {own:Nat→Option Nat} {h:Nat→Obj} {s:Nat→SV}
def AG1 (o:Oper) (x:Opd):Bool:=match o.op with
  | .unOp .not _ y=>Xp x y
  | _=>false
def AG0 (o:Oper) (x:Opd):Bool:=match o.op with
  | .unOp .neg _ y=>Xp x y
  | _=>false
def isI (P:Program) (k:IntKind) (t:TypeId):Bool:=match P.underlying t with
  | some (.int k')=>decide (k'=k)
  | _=>false
def ACt (P:Program) (o:Oper) (k:IntKind) (x:Opd):Bool:=match o.op with
  | .convert src dst y=>isI P k dst && (P.underlying src).isSome && Xp x y
  | _=>false
def Lp (o:Oper) (x:Opd) (i:Nat):Bool:=match o.op with
  | .extract y j=>Nat.beq i j && Xp x y
  | _=>false
def ACv (o:Oper) (f:FuncId) (caps:List Opd):Bool:=match o.op with
  | .makeFunc (.func g) first captured=>Nat.beq f g && first.toList.isEmpty && J2 caps captured.toList
  | _=>false
def Nl (o:Oper) (b:Builtin→Bool) (xs:List Opd):Bool:=match o.op with
  | .call c=>(match c.callee with | .builtin b'=>b b' | _=>false) && J2 xs c.args.toList
  | _=>false
def ANq (P:Program) (o:Oper):Bool:=match o.op with
  | .call c=>(match c.argTypes.toList with
    | t :: _=>(match P.underlying t with | some .string=>true | _=>false)
    | []=>false)
  | _=>false
def ANp (P:Program) (o:Oper):Bool:=match o.op with
  | .call c=>(match c.argTypes.toList with | t :: _=>(match P.underlying t with | some (.slice _)=>true | _=>false) | _=>false)
  | _=>false
theorem ANm {k:IntKind} {t:TypeId} (h:isI P k t=true):P.underlying t=some (.int k):=by
  unfold isI at h
  split at h
  · rename_i k' hk; rw [hk]; simp at h; rw [h]
  · cases h
variable (st:St B w0 A ρ own w h) (hs:Xo A ρ w s a)
include st hs
theorem ANh {x:Opd} (hc:AG1 o x=true) {b:Bool} {ov:Ov} (hx:evO s x=.dat .bool b ov):Zy P o a w B w0 A ρ (.dat .bool (!b) []) h:=by
  unfold AG1 at hc
  split at hc
  · rename_i t y ho
    have k:=Ya hs hc
    rw [hx] at k
    have k:=Kc k
    exact Zy.pure st (by simp [execOp,ho,k,Op.unary]) H1
  · cases hc
theorem ANg {x:Opd} (hc:AG0 o x=true) {k:IntKind} {n:Int} {ov:Ov} (hx:evO s x=.dat (.int k) n ov):Zy P o a w B w0 A ρ (.dat (.int k) (k.wrap (0 - n)) []) h:=by
  unfold AG0 at hc
  split at hc
  · rename_i t y ho
    have k1:=Ya hs hc
    rw [hx] at k1
    have k1:=Ga k1
    exact Zy.pure st (v':=.int k (k.wrap (0 - n))) (by simp only [execOp,ho,k1,Op.unary,Op.intArith,Sem.run_bind,Sem.run_pure,Result.andThen_ok]) Gv
  · cases hc
theorem AJ4 {x:Opd} {k:IntKind} (hc:ACt P o k x=true) {k':IntKind} {n:Int} {ov:Ov} (hx:evO s x=.dat (.int k') n ov):Zy P o a w B w0 A ρ (.dat (.int k) (k.wrap n) []) h:=by
  unfold ACt at hc
  split at hc
  · rename_i src dst y ho
    simp only [Bool.and_eq_true] at hc
    have k1:=Ya hs hc.2
    rw [hx] at k1
    have k1:=Ga k1
    obtain ⟨d,hd⟩:=Option.isSome_iff_exists.1 hc.1.2
    have hi:=ANm hc.1.1
    refine Zy.pure st (v':=.int k (k.wrap n)) ?_ Gv
    simp only [execOp,ho,k1,convert,Sem.run_bind,run_underlying hd w,run_underlying hi w,Result.andThen_ok,Conv.intToInt,Sem.run_pure]
  · cases hc
theorem ADd {x:Opd} {i:Nat} (hc:Lp o x i=true) {us:List SV} {u:SV} (hx:evO s x=.tup us) (hu:us[i]?=some u):Zy P o a w B w0 A ρ u h:=by
  unfold Lp at hc
  split at hc
  · rename_i y j ho
    simp only [Bool.and_eq_true] at hc
    have hij:=Nat.eq_of_beq_eq_true hc.1
    subst hij
    have k1:=Ya hs hc.2
    rw [hx] at k1
    simp only [Zn] at k1
    obtain ⟨vs,k1,k2⟩:=k1
    have get:∀ (us:List SV) (vs:List Value) (i:Nat),Zt A ρ w us vs→us[i]?=some u→∃ v,vs[i]?=some v∧Zn A ρ w u v:=by
      intro us
      induction us with
      | nil=>intro vs i _ h; simp at h
      | cons u' r ih =>
        intro vs i h1 h2
        simp only [Zt] at h1
        obtain ⟨v,vs',rfl,h3,h4⟩:=h1
        cases i with
        | zero=>simp at h2; subst h2; exact ⟨v,by simp,h3⟩
        | succ i=>simpa using ih vs' i h4 (by simpa using h2)
    obtain ⟨v,m1,m2⟩:=get us vs i k2 hu
    refine Zy.pure st (v':=v) ?_ m2
    simp [execOp,ho,k1,Instr.extract,m1]
  · cases hc
theorem AJ5 {f:FuncId} {caps:List Opd} (hc:ACv o f caps=true):Zy P o a w B w0 A ρ (.clo f (caps.map (evO s))) h:=by
  unfold ACv at hc
  split at hc
  · rename_i g first captured ho
    simp only [Bool.and_eq_true,List.isEmpty_iff] at hc
    have hij:=Nat.eq_of_beq_eq_true hc.1.1
    subst hij
    have k1:=R3 hs hc.2
    have hf:first = #[]:=by simpa using hc.1.2
    subst hf
    refine Zy.pure st (v':=.func (.func f) #[] (captured.map a.eval)) ?_ ?_
    · simp [execOp,ho,Instr.makeFunc]
    · simp only [Zn]
      exact ⟨_,by rw [← Array.toList_map],k1⟩
  · cases hc
omit st hs in
theorem T1 {b:Builtin→Bool} {xs:List Opd} (hc:Nl o b xs=true):∃ c b',o.op=.call c∧c.callee=.builtin b'∧b b'=true∧J2 xs c.args.toList=true:=by
  unfold Nl at hc
  split at hc
  · rename_i c ho
    simp only [Bool.and_eq_true] at hc
    cases hb:c.callee with
    | builtin b'=>simp only [hb] at hc; exact ⟨c,b',ho,hb,hc.1,hc.2⟩
    | value f=>simp [hb] at hc
    | invoke f m=>simp [hb] at hc
  · cases hc
omit st hs in
theorem Wt {c:Call} {b:Builtin} (ho:o.op=.call c) (hb:c.callee=.builtin b) :
    (execOp a.eval o).run P w=(builtin b c.argTypes o.type (c.args.map fun | .const _=>true | _=>false) (c.args.map a.eval)).run P w:=by
  simp [execOp,ho,Go.resolve,hb,invoke]; rfl
theorem AJ7 {x:Opd} (hc:Nl o (fun | .len=>true | _=>false) [x]=true) (ht:ANq P o=true) {y:ByteArray} {ov:Ov} (hx0:evO s x=.dat .str y ov):Zy P o a w B w0 A ρ (.dat (.int .i64) ((ByteArray.size y:Nat):Int) []) h:=by
  obtain ⟨c,b,ho,hb,hbb,hx⟩:=T1 hc
  cases b <;> simp at hbb
  simp only [ANq,ho] at ht
  have hx':∃ y,c.args.toList=[y]∧Xp x y=true:=by
    cases hl:c.args.toList with
    | nil=>rw [hl] at hx; simp [J2] at hx
    | cons y r=>cases r with
      | nil=>rw [hl] at hx; simp [J2] at hx; exact ⟨y,rfl,hx⟩
      | cons z r=>rw [hl] at hx; simp [J2] at hx
  obtain ⟨z,hy,hxy⟩:=hx'
  have hargs:c.args = #[z]:=by rw [← Array.toArray_toList (xs:=c.args),hy]
  cases htl:c.argTypes.toList with
  | nil=>simp [htl] at ht
  | cons t tr =>
    simp only [htl] at ht
    have ht0:c.argTypes[0]?=some t:=by rw [← Array.getElem?_toList,htl]; rfl
    have hu:P.underlying t=some .string:=by
      split at ht
      · rename_i he; exact he
      · cases ht
    have k1:=Ya hs hxy
    rw [hx0] at k1
    simp only [Zn,Zp] at k1
    obtain ⟨cs,rfl,hv⟩:=k1
    have hv:a.eval z=.string y:=hv
    refine Zy.pure st (v':=.int .i64 ((ByteArray.size y:Nat):Int)) ?_ Gv
    rw [Wt ho hb,hargs]
    simp only [builtin,Builtin.len_,List.map_toArray,List.map_cons,List.map_nil,hv,ht0,Sem.run_bind]
    simp [run_underlying hu w,goInt]
theorem ANd {x:Opd} (hc:Nl o (fun | .len=>true | _=>false) [x]=true) (ht:ANp P o=true) {R:Type} {K:SV→Option R} {r:R} (hg:ADm h (evO s x) K=some r) :
    ∃ v,K v=some r∧Zy P o a w B w0 A ρ v h:=by
  obtain ⟨c,b,ho,hb,hbb,hx⟩:=T1 hc
  cases b <;> simp at hbb
  simp only [ANp,ho] at ht
  have hx':∃ y,c.args.toList=[y]∧Xp x y=true:=by
    cases hl:c.args.toList with
    | nil=>rw [hl] at hx; simp [J2] at hx
    | cons y r=>cases r with
      | nil=>rw [hl] at hx; simp [J2] at hx; exact ⟨y,rfl,hx⟩
      | cons z r=>rw [hl] at hx; simp [J2] at hx
  obtain ⟨y,hy,hxy⟩:=hx'
  have hargs:c.args = #[y]:=by rw [← Array.toArray_toList (xs:=c.args),hy]
  cases htl:c.argTypes.toList with
  | nil=>simp [htl] at ht
  | cons t tr =>
    simp only [htl] at ht
    have ht0:c.argTypes[0]?=some t:=by rw [← Array.getElem?_toList,htl]; rfl
    have hu:∃ e,P.underlying t=some (.slice e):=by
      split at ht
      · rename_i e he; exact ⟨e,he⟩
      · cases ht
    obtain ⟨e,hu⟩:=hu
    have k1:=Ya hs hxy
    have fin:∀ (ad:Option Addr) (n m:Nat),a.eval y=.slice ad n m→(execOp a.eval o).run P w=.ok (.value (.int .i64 n)) w:=fun ad n m hv=>by
      rw [Wt ho hb,hargs]
      simp only [builtin,Builtin.len_,List.map_toArray,List.map_cons,List.map_nil,hv,ht0,Sem.run_bind]
      simp [run_underlying hu w,goInt]
    unfold ADm at hg
    split at hg
    · rename_i el l e1
      rw [e1] at k1
      simp only [Zn,Zp] at k1
      obtain ⟨cs,⟨ad,n,m,rfl,_,h3⟩,hv⟩:=k1
      have hn:=(h3 (by simp)).1
      subst hn
      exact ⟨_,hg,Zy.pure st (fin ad _ m hv) Gv⟩
    · rename_i el l0 g e1
      rw [e1] at k1
      simp only [Zn,Zp] at k1
      obtain ⟨cs,⟨ad,n,m,rfl,h2,_⟩,hv⟩:=k1
      obtain ⟨sp,ad',hr,_,heq,_⟩:=h2 g (by simp)
      have ob:=st.objs g
      split at hg
      · rename_i el' l e2
        rw [e2] at ob
        simp only [J4,V2] at ob
        obtain ⟨sp',hr',_,_,_,_,_,hl,_⟩:=ob
        rw [hr] at hr'
        cases hr'
        cases heq
        refine ⟨_,hg,Zy.pure st (fin _ _ _ hv) ?_⟩
        rw [hl]; exact Gv
      · rename_i el' l e2
        rw [e2] at ob
        simp only [J4,V2] at ob
        obtain ⟨sp',hr',_,_,_,_,_,hl,_⟩:=ob
        rw [hr] at hr'
        cases hr'
        cases heq
        refine ⟨_,hg,Zy.pure st (fin _ _ _ hv) ?_⟩
        rw [hl]; exact Gv
      · cases hg
    · rename_i us e1
      rw [e1] at k1
      simp only [Zn] at k1
      obtain ⟨ad,n,m,hv,hn,_⟩:=k1
      subst hn
      exact ⟨_,hg,Zy.pure st (fin _ _ _ hv) Gv⟩
    · cases hg
end
end Go.Proofs.YtmemggdjnfccfaaGreatDoor.Ghost
namespace Go.Proofs.YtmemggdjnfccfaaGreatDoor.Ghost
open Go
mutual
theorem Rc:(τ:Ty)→(p q:Xb)→(x:den τ)→(d:Dyn)→okP τ p→getP p τ x=some d→okP d.τ q→okP τ (p ++ q)∧Jm τ (p ++ q)=Jm τ p+Jm d.τ q
  | τ,[],q,x,d,_,h,hq=>by
    have:d=⟨τ,x⟩:=by cases τ <;> simpa [getP,eq_comm] using h
    subst this
    have h0:Jm τ []=0:=by cases τ <;> rfl
    exact ⟨hq,by rw [h0,Nat.zero_add]; rfl⟩
  | .st fs,i :: p,q,x,d,hk,h,hq=>by
    simp only [okP] at hk
    simp only [getP] at h
    simp only [List.cons_append,okP,Jm]
    exact Am fs i p q x d hk h hq
  | .arr n e,i :: p,q,x,d,hk,h,hq=>by
    simp only [okP] at hk
    simp only [getP] at h
    simp only [List.cons_append,okP,Jm]
    have:=Rc e p q _ d hk.2 h hq
    exact ⟨⟨hk.1,this.1⟩,by rw [this.2]; omega⟩
  | .bool,_ :: _,_,_,_,hk,_,_=>by simp [okP] at hk
  | .int _,_ :: _,_,_,_,hk,_,_=>by simp [okP] at hk
  | .str,_ :: _,_,_,_,hk,_,_=>by simp [okP] at hk
  | .sl _,_ :: _,_,_,_,hk,_,_=>by simp [okP] at hk
theorem Am:(fs:List Ty)→(i:Nat)→(p q:Xb)→(x:Hh fs)→(d:Dyn)→okF fs i p →
    (match G9 fs i x with | some d=>getP p d.τ d.x | none=>none)=some d→okP d.τ q→okF fs i (p ++ q)∧Ub fs i (p ++ q)=Ub fs i p+Jm d.τ q
  | [],_,_,_,_,_,hk,_,_=>by simp [okF] at hk
  | t :: r,0,p,q,x,d,hk,h,hq=>by
    simp only [okF] at hk
    simp only [G9] at h
    simp only [okF,Ub]
    exact Rc t p q x.1 d hk h hq
  | t :: r,n+1,p,q,x,d,hk,h,hq=>by
    simp only [okF] at hk
    simp only [G9] at h
    simp only [okF,Ub]
    have:=Am r n p q x.2 d hk h hq
    exact ⟨this.1,by rw [this.2]; omega⟩
end
theorem Of {P:Program}:(fs:List Ty)→(l:List Field)→(o j:Nat)→Jb P fs o l=true→j<fs.length →
    ∃ f t,l[j]?=some f∧fs[j]?=some t∧f.offset=o+Ub fs j []∧J0 P f.type (Zi t)=true∧0<Zi t∧X1 P t f.type=true∧okF fs j []
  | [],_,_,_,_,hj=>by simp at hj
  | _ :: _,[],_,_,h,_=>by simp [Jb] at h
  | t :: r,f :: s,o,0,h,_=>by
    simp only [Jb,Bool.and_eq_true] at h
    obtain ⟨⟨⟨⟨h1,h2⟩,h3⟩,h4⟩,_⟩:=h
    have h0:Jm t []=0:=by cases t <;> rfl
    have k0:okP t []:=by cases t <;> trivial
    exact ⟨f,t,rfl,rfl,by simp only [Ub,h0]; exact Nat.eq_of_beq_eq_true h1,h2,by simpa [Nat.blt_eq] using h3,h4,k0⟩
  | t :: r,f :: s,o,j+1,h,hj=>by
    simp only [Jb,Bool.and_eq_true] at h
    obtain ⟨f',t',h1,h2,h3,h4⟩:=Of r s (o+Zi t) j h.2 (by simpa using hj)
    exact ⟨f',t',by simpa using h1,by simpa using h2,by simp only [Ub]; omega,h4⟩
theorem ABi:(fs:List Ty)→(j:Nat)→(x:Hh fs)→(d:Dyn)→G9 fs j x=some d→fs[j]?=some d.τ
  | [],_,_,_,h=>by simp [G9] at h
  | t :: r,0,x,d,h=>by simp [G9] at h; subst h; rfl
  | t :: r,n+1,x,d,h=>by simp only [G9] at h; simpa using ABi r n x.2 d h
theorem AM6 {fs:List Ty} {j:Nat} {x:Hh fs} {d:Dyn} (h:getP [j] (.st fs) x=some d):G9 fs j x=some d:=by
  simp only [getP] at h
  split at h
  · rename_i d' hd
    rw [hd]
    have:getP [] d'.τ d'.x=some d':=by
      obtain ⟨τ,y⟩:=d'
      cases τ <;> rfl
    exact this.symm.trans h
  · cases h
theorem Hc {w:World} {b o:Nat} {cs:List Value} (h:w.rangeAt b o cs) (k n:Nat):w.rangeAt b (o+k) (cut cs k n):=fun j v hv=>by
  rw [Qa] at hv
  split at hv
  · have:=h (k+j) v hv
    rw [show o+(k+j)=o+k+j by omega] at this
    exact this
  · cases hv
theorem AE1 (cs:Array Value) (o n:Nat):(cs.extract o (o+n))=(cut cs.toList o n).toArray:=by
  apply Array.ext'
  rw [Array.toList_extract]
  simp [cut]
section
variable {P:Program} {o:Oper} {a:Act} {w:World} {B:Nat} {w0:Qh} {A:Nat→Prop} {ρ:Xk} {own:Nat→Option Nat} {h:Nat→Obj} {s:Nat→SV}
theorem AA5 {τ:Ty} {x:den τ} {ov:Ov} {cs:List Value} (hr:Zp A ρ w τ x ov cs) (ha:Um τ=false):∃ v,cs=[v]:=by
  have:=Zp.length τ hr
  have h1:Zi τ=1:=by cases τ <;> simp [Um] at ha <;> rfl
  rw [h1] at this
  match cs,this with
  | [v],_=>exact ⟨v,rfl⟩
theorem P2 {τ:Ty} {t:TypeId} {cs:Array Value} {off:Nat} {x:den τ} {ov:Ov} (hd:X1 P τ t=true) (hz:J0 P t (Zi τ)=true)
    (hr:Zp A ρ w τ x ov (cut cs.toList off (Zi τ))):(part t cs off).run P w=.ok (mkV τ (cut cs.toList off (Zi τ))) w:=by
  obtain ⟨d,h1,h2⟩:=Dk hd
  unfold part
  rw [Sem.run_bind,AAa h1 w,Result.andThen_ok,h2]
  cases ha:Um τ with
  | true =>
    simp only [if_true,Sem.run_bind,Vl hz,Result.andThen_ok,Sem.run_pure,mkV,ha,AE1]
  | false =>
    obtain ⟨v,hv⟩:=AA5 hr ha
    have h3:(cut cs.toList off (Zi τ))[0]?=some v:=by rw [hv]; rfl
    rw [Qa] at h3
    split at h3
    · simp only [Nat.add_zero,Array.getElem?_toList] at h3
      simp [h3,mkV,ha,hv]
    · cases h3
def C9 (P:Program) (o:Oper) (τ:Ty) (j:Nat) (x:Opd):Bool:=match o.op with
  | .field T y i=>Nat.beq i j && X1 P τ T && (match τ with | .st _=>true | _=>false) && Xp x y
  | _=>false
theorem AHa (st:St B w0 A ρ own w h) (hs:Xo A ρ w s a) {τ:Ty} {j:Nat} {x:Opd} (hc:C9 P o τ j x=true) {y:den τ} {ov:Ov} (hx:evO s x=.dat τ y ov)
    {d:Dyn} (hg:getP [j] τ y=some d):Zy P o a w B w0 A ρ (.dat d.τ d.x (J6 [j] ov)) h:=by
  unfold C9 at hc
  split at hc
  · rename_i T z i ho
    simp only [Bool.and_eq_true] at hc
    obtain ⟨⟨⟨hi,hd⟩,hst⟩,hxz⟩:=hc
    have hi:=Nat.eq_of_beq_eq_true hi
    subst hi
    cases τ with
    | st fs =>
      have k1:=Ya hs hxz
      rw [hx] at k1
      simp only [Zn] at k1
      obtain ⟨cs,k1,k2⟩:=k1
      simp only [mkV,Um] at k2
      have hf:=AM6 hg
      have hty:=ABi fs i y d hf
      have hlt:i<fs.length:=(List.getElem?_eq_some_iff.1 hty).1
      simp only [X1] at hd
      cases hu:P.underlying T with
      | none=>simp [hu] at hd
      | some dd =>
        cases dd with
        | struct l =>
          simp only [hu] at hd
          obtain ⟨f,t,m1,m2,m3,m4,m5,m6,m7⟩:=Of fs l.toList 0 i hd hlt
          rw [hty] at m2
          cases m2
          have hp:=Zp.getP (.st fs) [i] k1 (by simpa only [okP] using m7) hg
          have m1':l[i]?=some f:=by rw [← Array.getElem?_toList]; exact m1
          have hoff:f.offset=Jm (.st fs) [i]:=by rw [m3,Nat.zero_add]; rfl
          rw [← hoff] at hp
          have hpart:=P2 (P:=P) (cs:=cs.toArray) (off:=f.offset) m6 m4 (by simpa using hp)
          refine Zy.pure st (v':=mkV d.τ (cut cs f.offset (Zi d.τ))) ?_ (by simp only [Zn]; exact ⟨_,hp,rfl⟩)
          simp only [execOp,ho,k2,Instr.field,Sem.run_bind,run_underlying hu w,Result.andThen_ok,m1',asAgg,Sem.run_pure,hpart]
        | _=>simp [hu] at hd
    | _=>simp at hst
  · cases hc
end
end Go.Proofs.YtmemggdjnfccfaaGreatDoor.Ghost
namespace Go.Proofs.YtmemggdjnfccfaaGreatDoor.Ghost
open Go
section
variable {P:Program} {o:Oper} {a:Act} {w:World} {B:Nat} {w0:Qh} {A:Nat→Prop} {ρ:Xk} {own:Nat→Option Nat} {h:Nat→Obj} {s:Nat→SV}
def Gb (P:Program):List Nat→Nat→List Field→Bool
  | [],_,[]=>true
  | n :: r,o,f :: s=>Nat.beq f.offset o && J0 P f.type n && Nat.blt 0 n && Gb P r (o+n) s
  | _,_,_=>false
def AR4 (P:Program):FT→TypeId→Bool
  | .d (.st fs),t=>X1 P (.st fs) t
  | .d _,_=>false
  | .v sizes,t=>(match P.underlying t with | some (.struct l)=>Gb P sizes 0 l.toList | _=>false)
def Oa (P:Program) (o:Oper) (t:FT) (j:Nat) (x:Opd):Bool:=match o.op with
  | .fieldAddr T y i=>Nat.beq i j && AR4 P t T && Xp x y
  | _=>false
def Wu:List Nat→Nat→Nat
  | [],_=>0
  | _ :: _,0=>0
  | n :: r,j+1=>n+Wu r j
theorem Oy:(sizes:List Nat)→(l:List Field)→(o j:Nat)→Gb P sizes o l=true→j<sizes.length →
    ∃ f n,l[j]?=some f∧f.offset=o+Wu sizes j∧J0 P f.type n=true∧0<n
  | [],_,_,_,_,hj=>by simp at hj
  | _ :: _,[],_,_,h,_=>by simp [Gb] at h
  | n :: r,f :: s,o,0,h,_=>by
    simp only [Gb,Bool.and_eq_true] at h
    exact ⟨f,n,rfl,by rw [show Wu (n :: r) 0=0 from rfl,Nat.add_zero]; exact Nat.eq_of_beq_eq_true h.1.1.1,h.1.1.2,by simpa [Nat.blt_eq] using h.1.2⟩
  | n :: r,f :: s,o,j+1,h,hj=>by
    simp only [Gb,Bool.and_eq_true] at h
    obtain ⟨f',n',h1,h2,h3⟩:=Oy r s (o+n) j h.2 (by simpa using hj)
    exact ⟨f',n',by simpa using h1,by simp only [Wu]; omega,h3⟩
theorem AGg {T:TypeId} {l:Array Field} {i:Nat} {f:Field} {n b k:Nat} (hu:P.underlying T=some (.struct l)) (hf:l[i]?=some f) (hn:J0 P f.type n=true) (hp:0<n) :
    (Instr.fieldAt T (.pointer (some ⟨b,k,none⟩)) i).run P w=.ok (.pointer (some ⟨b,k+f.offset,none⟩)) w:=by
  have:n≠0:=by omega
  simp only [Instr.fieldAt,Sem.run_bind,run_underlying hu w,Result.andThen_ok,hf,Instr.sureAddr,Sem.run_pure,fieldPlace,Vl hn,this,if_false,Addr.add_mid]
theorem Et:{a b:List Nat}→Yj.natsEq a b=true→a=b
  | [],[],_=>rfl
  | x :: r,y :: s,h=>by
    simp only [Yj.natsEq,Bool.and_eq_true] at h
    rw [Nat.eq_of_beq_eq_true h.1,Et h.2]
theorem Pc:(us:List SV)→(Yj.sizesV us).length=us.length
  | []=>rfl
  | _ :: r=>by simp [Yj.sizesV,Pc r]
theorem M0:(us:List SV)→(j:Nat)→Uh us j []=Wu (Yj.sizesV us) j
  | [],_=>rfl
  | u :: r,0=>by
    have:W9 u []=0:=by cases u <;> rfl
    simp only [Uh,this,Yj.sizesV,Wu]
  | u :: r,j+1=>by simp only [Uh,Yj.sizesV,Wu,M0 r j]
theorem Ms:(us:List SV)→(j:Nat)→getV.getVL us j []=us[j]?
  | [],_=>by simp [getV.getVL]
  | u :: r,0=>by cases u <;> simp [getV.getVL,getV]
  | u :: r,j+1=>by simp only [getV.getVL,Ms r j]; simp
mutual
theorem Dn:(u:SV)→(p q:Xb)→(x:SV)→getV u p=some x→getV u (p ++ q)=getV x q∧W9 u (p ++ q)=W9 u p+W9 x q
  | u,[],q,x,hg=>by
    have:u=x:=by cases u <;> simpa [getV] using hg
    subst this
    have:W9 u []=0:=by cases u <;> rfl
    exact ⟨rfl,by rw [this,Nat.zero_add]; rfl⟩
  | .agv us,i :: p,q,x,hg=>by
    simp only [getV] at hg
    have:=I1 us i p q x hg
    simpa only [List.cons_append,getV,W9] using this
  | .dat _ _ _,_ :: _,_,_,hg=>by simp [getV] at hg
  | .ptr _ _,_ :: _,_,_,hg=>by simp [getV] at hg
  | .ref _ _,_ :: _,_,_,hg=>by simp [getV] at hg
  | .refv _,_ :: _,_,_,hg=>by simp [getV] at hg
  | .selfc _ _,_ :: _,_,_,hg=>by simp [getV] at hg
  | .glo _,_ :: _,_,_,hg=>by simp [getV] at hg
  | .elp _ _ _,_ :: _,_,_,hg=>by simp [getV] at hg
  | .clo _ _,_ :: _,_,_,hg=>by simp [getV] at hg
  | .tup _,_ :: _,_,_,hg=>by simp [getV] at hg
  | .slv _,_ :: _,_,_,hg=>by simp [getV] at hg
  | .fmap _ _,_ :: _,_,_,hg=>by simp [getV] at hg
  | .nilfn,_ :: _,_,_,hg=>by simp [getV] at hg
  | .und,_ :: _,_,_,hg=>by simp [getV] at hg
  | .junk,_ :: _,_,_,hg=>by simp [getV] at hg
theorem I1:(us:List SV)→(i:Nat)→(p q:Xb)→(x:SV)→getV.getVL us i p=some x→getV.getVL us i (p ++ q)=getV x q∧Uh us i (p ++ q)=Uh us i p+W9 x q
  | [],_,_,_,_,hg=>by simp [getV.getVL] at hg
  | u :: r,0,p,q,x,hg=>by
    simp only [getV.getVL] at hg
    simpa only [getV.getVL,Uh] using Dn u p q x hg
  | u :: r,n+1,p,q,x,hg=>by
    simp only [getV.getVL] at hg
    have:=I1 r n p q x hg
    simp only [getV.getVL,Uh]
    exact ⟨this.1,by rw [this.2]; omega⟩
end
theorem Ht {g:Nat} {p:Xb} {v:Value} {sp:He} (hv:Zn A ρ w (.ptr g p) v) (hr:ρ g=some sp) (hm:sp.mp=false):sp.ok p∧v=.pointer (some ⟨sp.b,sp.off p,none⟩):=by
  simp only [Zn] at hv
  obtain ⟨s',h1,h2,h3⟩:=hv
  rw [hr] at h1
  cases h1
  rw [hm] at h3
  exact ⟨h2,h3⟩
theorem AHq {g:Nat} {p:Xb} {sp:He} (hr:ρ g=some sp) (hm:sp.mp=false) (hk:sp.ok p):Zn A ρ w (.ptr g p) (.pointer (some ⟨sp.b,sp.off p,none⟩)):=by
  simp only [Zn]
  exact ⟨sp,hr,hk,by rw [hm]⟩
theorem Av {g i:Nat} {p:Xb} {v:Value} {sp:He} (hv:Zn A ρ w (.elp g i p) v) (hr:ρ g=some sp):i<sp.len∧sp.ok p∧v=.pointer (some ⟨sp.b,i * sp.es+sp.off p,none⟩):=by
  simp only [Zn] at hv
  obtain ⟨s',h1,_,h2,h3,h4⟩:=hv
  rw [hr] at h1
  cases h1
  exact ⟨h2,h3,h4⟩
variable (st:St B w0 A ρ own w h) (hs:Xo A ρ w s a)
include st hs
theorem B7 {t:FT} {j:Nat} {x:Opd} (hc:Oa P o t j x=true) {R:Type} {K:SV→Option R} {r:R} (hg:Yj h t j (evO s x) K=some r) :
    ∃ v,K v=some r∧Zy P o a w B w0 A ρ v h:=by
  unfold Oa at hc
  split at hc
  case h_2=>cases hc
  rename_i T y i ho
  simp only [Bool.and_eq_true] at hc
  obtain ⟨⟨hi,hT⟩,hxy⟩:=hc
  have hi:=Nat.eq_of_beq_eq_true hi
  subst hi
  have k1:=Ya hs hxy
  have fin:∀ (l:Array Field) (f:Field) (n b k:Nat) (v:SV),P.underlying T=some (.struct l)→l[i]?=some f→J0 P f.type n=true→0<n→a.eval y=.pointer (some ⟨b,k,none⟩) →
      Zn A ρ w v (.pointer (some ⟨b,k+f.offset,none⟩))→Zy P o a w B w0 A ρ v h:=fun l f n b k v h1 h2 h3 h4 h5 h6 =>
    Zy.pure st (by simp only [execOp,ho,h5,Sem.run_bind,AGg h1 h2 h3 h4,Result.andThen_ok,Sem.run_pure]) h6
  unfold Yj at hg
  cases t with
  | d σ =>
    cases σ with
    | st fs =>
      simp only [AR4] at hT
      have hd:=hT
      simp only [X1] at hT
      cases hu:P.underlying T with
      | none=>simp [hu] at hT
      | some dd =>
        cases dd with
        | struct l =>
          simp only [hu] at hT
          simp only [] at hg
          cases hj:Nat.blt i fs.length with
          | false=>rw [hj] at hg; simp at hg
          | true =>
            rw [hj] at hg
            simp only [cond_true] at hg
            obtain ⟨f,t,m1,m2,m3,m4,m5,m6,m7⟩:=Of fs l.toList 0 i hT (by simpa [Nat.blt_eq] using hj)
            have m1':l[i]?=some f:=by rw [← Array.getElem?_toList]; exact m1
            have hoff:f.offset=Jm (.st fs) [i]:=by rw [m3,Nat.zero_add]; rfl
            have hok:okP (.st fs) [i]:=by simpa only [okP] using m7
            have box:∀ (g:Nat) (p:Xb) (τ:Ty) (z:den τ) (ov:Ov) (M:He→List Value→Prop),evO s x=.ptr g p→Tw A ρ w g τ z ov M →
                Yj.fld τ z p (.st fs) (K (.ptr g (p ++ [i])))=some r→∃ v,K v=some r∧Zy P o a w B w0 A ρ v h:=fun g p τ z ov M hx hb hf=>by
              obtain ⟨sp,cs,n1,n2,n3,n4,_,_⟩:=hb
              rw [hx] at k1
              obtain ⟨q1,q2⟩:=Ht k1 n1 n2
              rw [n4] at q1
              unfold Yj.fld at hf
              split at hf
              · rename_i d hd'
                split at hf
                · rename_i pl _
                  obtain ⟨dτ,dx⟩:=d
                  have hdt:dτ=.st fs:=pl.down
                  subst hdt
                  have:=Rc τ p [i] z ⟨.st fs,dx⟩ q1 hd' hok
                  refine ⟨_,hf,fin l f _ _ _ _ hu m1' m4 m5 q2 ?_⟩
                  have e:sp.off p+f.offset=sp.off (p ++ [i]):=by rw [n3,this.2,hoff]
                  rw [e]
                  exact AHq n1 n2 (by rw [n4]; exact this.1)
                · cases hf
              · cases hf
            have arr:∀ (g k:Nat) (p:Xb) (e:Ty) (z:List (den e)) (M:He→List Value→Prop),evO s x=.elp g k p→V2 A ρ w g e z M →
                Yj.fld e (dft e) p (.st fs) (K (.elp g k (p ++ [i])))=some r→∃ v,K v=some r∧Zy P o a w B w0 A ρ v h:=fun g k p e z M hx hb hf=>by
              obtain ⟨sp,n1,n2,n3,n4,n5,n6,_⟩:=hb
              rw [hx] at k1
              obtain ⟨q0,q1,q2⟩:=Av k1 n1
              rw [n6] at q1
              unfold Yj.fld at hf
              split at hf
              · rename_i d hd'
                split at hf
                · rename_i pl _
                  obtain ⟨dτ,dx⟩:=d
                  have hdt:dτ=.st fs:=pl.down
                  subst hdt
                  have:=Rc e p [i] (dft e) ⟨.st fs,dx⟩ q1 hd' hok
                  refine ⟨_,hf,fin l f _ _ _ _ hu m1' m4 m5 q2 ?_⟩
                  have e':k * sp.es+sp.off p+f.offset=k * sp.es+sp.off (p ++ [i]):=by rw [n5,this.2,hoff]; exact Nat.add_assoc _ _ _
                  rw [e']
                  simp only [Zn]
                  exact ⟨sp,n1,n2,q0,by rw [n6]; exact this.1,rfl⟩
                · cases hf
              · cases hf
            split at hg
            · rename_i g p hx
              have ob:=st.objs g
              split at hg
              · rename_i τ z ov hh; rw [hh] at ob; exact box g p τ z ov _ hx ob hg
              · rename_i τ z ov hh; rw [hh] at ob; exact box g p τ z ov _ hx ob hg
              · cases hg
            · rename_i g k p hx
              have ob:=st.objs g
              split at hg
              · rename_i e z hh; rw [hh] at ob; exact arr g k p e z _ hx ob hg
              · rename_i e z hh; rw [hh] at ob; exact arr g k p e z _ hx ob hg
              · cases hg
            · rename_i τ z hx
              split at hg
              · rename_i pl d _ hd'
                have hτ:τ=.st fs:=pl.down
                subst hτ
                rw [hx] at k1
                simp only [Zn] at k1
                obtain ⟨b,k,cs,q1,q2,q3,q4⟩:=k1
                have hp:=Zp.getP (.st fs) [i] q4 hok hd'
                refine ⟨_,hg,fin l f _ _ _ _ hu m1' m4 m5 q1 ?_⟩
                simp only [Zn]
                refine ⟨b,k+f.offset,_,rfl,q2,?_,Zp.ov d.τ (fun e => ?_) hp⟩
                · rw [hoff]; exact Hc q3 _ _
                · obtain ⟨q,oo⟩:=e
                  rw [Qm]; simp
              · cases hg
            · cases hg
        | _=>simp [hu] at hT
    | _=>simp [AR4] at hT
  | v sizes =>
    simp only [AR4] at hT
    simp only [] at hg
    cases hu:P.underlying T with
    | none=>simp [hu] at hT
    | some dd =>
      cases dd with
      | struct l =>
        simp only [hu] at hT
        have boxv:∀ (g:Nat) (p:Xb) (u:SV) (M:He→List Value→Prop),evO s x=.ptr g p→U8 A ρ w g u M →
            Yj.fldV u p sizes i (K (.ptr g (p ++ [i])))=some r→∃ v,K v=some r∧Zy P o a w B w0 A ρ v h:=fun g p u M hx hb hf=>by
          obtain ⟨sp,v,n1,n2,n3,n4,_⟩:=hb
          rw [hx] at k1
          obtain ⟨q1,q2⟩:=Ht k1 n1 n2
          unfold Yj.fldV at hf
          split at hf
          · rename_i us hus
            cases hcc:Yj.natsEq (Yj.sizesV us) sizes && Nat.blt i sizes.length with
            | false=>rw [hcc] at hf; simp at hf
            | true =>
              rw [hcc] at hf
              simp only [cond_true] at hf
              simp only [Bool.and_eq_true] at hcc
              have he:=Et hcc.1
              subst he
              obtain ⟨f,n,m1,m2,m3,m4⟩:=Oy _ l.toList 0 i hT (by simpa [Nat.blt_eq] using hcc.2)
              have m1':l[i]?=some f:=by rw [← Array.getElem?_toList]; exact m1
              have happ:=Dn u p [i] (.agv us) hus
              refine ⟨_,hf,fin l f n _ _ _ hu m1' m3 m4 q2 ?_⟩
              have e':sp.off p+f.offset=sp.off (p ++ [i]):=by
                rw [n3,happ.2,m2,Nat.zero_add]; simp only [W9,M0]
              rw [e']
              refine AHq n1 n2 ?_
              rw [n4]
              unfold okV
              rw [happ.1]
              simp only [getV,Ms]
              have hlt:i<us.length:=by
                have:=hcc.2
                rw [Nat.blt_eq,Pc] at this
                exact this
              exact ⟨us[i],List.getElem?_eq_getElem hlt⟩
          · cases hf
        split at hg
        · rename_i us hx
          split at hg
          · rename_i u hcc hu'
            have he:=Et hcc
            subst he
            have hlt:i<us.length:=(List.getElem?_eq_some_iff.1 hu').1
            obtain ⟨f,n,m1,m2,m3,m4⟩:=Oy _ l.toList 0 i hT (by rw [Pc]; exact hlt)
            have m1':l[i]?=some f:=by rw [← Array.getElem?_toList]; exact m1
            rw [hx] at k1
            simp only [Zn] at k1
            obtain ⟨b,k,v,q1,q2,q3,vs,rfl,q4,q5⟩:=k1
            obtain ⟨v',w1,w2⟩:=Zt.getV us q4 q5 (i:=i) (p:=[]) (x:=u) (by rw [Ms]; exact hu')
            refine ⟨_,hg,fin l f n _ _ _ hu m1' m3 m4 q1 ?_⟩
            simp only [Zn]
            refine ⟨b,k+f.offset,v',rfl,q2,?_,w1⟩
            rw [w2,m2,Nat.zero_add,← M0]
            exact Hc q3 _ _
          · cases hg
        · rename_i g p hx
          have ob:=st.objs g
          split at hg
          · rename_i u hh; rw [hh] at ob; exact boxv g p u _ hx ob hg
          · rename_i u hh; rw [hh] at ob; exact boxv g p u _ hx ob hg
          · cases hg
        · cases hg
      | _=>simp [hu] at hT
end
end Go.Proofs.YtmemggdjnfccfaaGreatDoor.Ghost
namespace Go.Proofs.YtmemggdjnfccfaaGreatDoor.Ghost
open Go
section
variable {P:Program} {o:Oper} {a:Act} {w:World} {B:Nat} {w0:Qh} {A:Nat→Prop} {ρ:Xk} {own:Nat→Option Nat} {h:Nat→Obj} {s:Nat→SV}
theorem I6 {R:Type} {n:Int} {m:Nat} {K:Nat→Option R} {r:R} (hg:inB n m K=some r):0≤n∧n<(m:Int)∧K n.toNat=some r:=by
  unfold inB at hg
  split at hg
  · rename_i hn; exact ⟨hn.1,hn.2,hg⟩
  · cases hg
def ASf (P:Program):IT→TypeId→Bool
  | .sl e,t=>X1 P (.sl e) t
  | .arr n e,t=>X1 P (.arr n e) t
  | .slv n,t=>(match P.underlying t with | some (.slice e)=>J0 P e n | _=>false)
def Ba (P:Program) (o:Oper) (t:IT) (x i:Opd):Bool:=match o.op with
  | .indexAddr T y z=>ASf P t T && Xp x y && Xp i z
  | _=>false
theorem Rf {T e:TypeId} {sz b k len cap:Nat} {kd:IntKind} {n:Int} (hu:P.underlying T=some (.slice e)) (hz:J0 P e sz=true) (h0:0≤n) (h1:n<(len:Int)) :
    (Instr.indexAt T (.slice (some ⟨b,k,none⟩) len cap) (.int kd n)).run P w=.ok (.pointer (some ⟨b,k+n.toNat * sz,none⟩)) w:=by
  simp only [Instr.indexAt,asIntOf,Sem.run_bind,Sem.run_pure,Result.andThen_ok,run_underlying hu w,h0,h1,and_self,if_true,Vl hz,Addr.add_mid]
theorem O8 {T e:TypeId} {sz b k len:Nat} {kd:IntKind} {n:Int} (hu:P.underlying T=some (.array len e)) (hz:J0 P e sz=true) (h0:0≤n) (h1:n<(len:Int)) :
    (Instr.indexAt T (.pointer (some ⟨b,k,none⟩)) (.int kd n)).run P w=.ok (.pointer (some ⟨b,k+n.toNat * sz,none⟩)) w:=by
  simp only [Instr.indexAt,asIntOf,Instr.sureAddr,Sem.run_bind,Sem.run_pure,Result.andThen_ok,run_underlying hu w,h0,h1,and_self,if_true,Vl hz,Addr.add_mid]
theorem Ee {e:Ty} {t:TypeId} (hd:X1 P (.sl e) t=true):∃ e',P.underlying t=some (.slice e')∧X1 P e e'=true∧J0 P e' (Zi e)=true∧0<Zi e:=by
  simp only [X1] at hd
  split at hd
  · rename_i e' he
    simp only [Bool.and_eq_true] at hd
    exact ⟨e',he,hd.1.1,hd.1.2,by simpa [Nat.blt_eq] using hd.2⟩
  · cases hd
theorem T3 {n:Nat} {e:Ty} {t:TypeId} (hd:X1 P (.arr n e) t=true):∃ e',P.underlying t=some (.array n e')∧X1 P e e'=true∧J0 P e' (Zi e)=true∧0<Zi e:=by
  simp only [X1] at hd
  split at hd
  · rename_i n' e' he
    simp only [Bool.and_eq_true] at hd
    have:=Nat.eq_of_beq_eq_true hd.1.1.1
    subst this
    exact ⟨e',he,hd.1.1.2,hd.1.2,by simpa [Nat.blt_eq] using hd.2⟩
  · cases hd
theorem AAf {z:Nat}:(us:List SV)→(j:Nat)→(∀ u,u∈us→Jn u=z)→j≤us.length→Wu (Yj.sizesV us) j=j * z
  | [],j,_,hj=>by simp at hj; subst hj; simp [Yj.sizesV,Wu]
  | u :: r,0,_,_=>by simp [Yj.sizesV,Wu]
  | u :: r,j+1,h,hj=>by
    simp only [Yj.sizesV,Wu,AAf r j (fun u hu=>h u (by simp [hu])) (by simpa using hj),h u (by simp),Nat.add_mul,Nat.one_mul]
    omega
variable (st:St B w0 A ρ own w h) (hs:Xo A ρ w s a)
include st hs
theorem AHb {t:IT} {x i:Opd} (hc:Ba P o t x i=true) {R:Type} {K:SV→Option R} {r:R} (hg:Ur t h (evO s x) (evO s i) K=some r) :
    ∃ v,K v=some r∧Zy P o a w B w0 A ρ v h:=by
  unfold Ba at hc
  split at hc
  case h_2=>cases hc
  rename_i T y z ho
  simp only [Bool.and_eq_true] at hc
  obtain ⟨⟨hT,hx⟩,hi⟩:=hc
  have k1:=Ya hs hx
  have k2:=Ya hs hi
  have fin:∀ (v':Value) (v:SV),(Instr.indexAt T (a.eval y) (a.eval z)).run P w=.ok v' w→Zn A ρ w v v'→Zy P o a w B w0 A ρ v h:=fun v' v h1 h2 =>
    Zy.pure st (by simp only [execOp,ho,Sem.run_bind,h1,Result.andThen_ok,Sem.run_pure]) h2
  unfold Ur at hg
  split at hg
  case h_2=>cases hg
  rename_i kd n ovi hin
  rw [hin] at k2
  have k2:=Ga k2
  rw [k2] at fin
  cases t with
  | sl σ =>
    simp only [ASf] at hT
    obtain ⟨e',u1,u2,u3,u4⟩:=Ee hT
    simp only [] at hg
    have own:∀ (e:Ty) (l0:List (den e)) (g:Nat) (e1:Ty) (l:List (den e1)) (M:He→List Value→Prop),evO s x=.dat (.sl e) l0 [([],some g)]→V2 A ρ w g e1 l M →
        (match K5 e1 σ with | some _=>inB n l.length fun j=>K (.elp g j []) | none=>none)=some r→∃ v,K v=some r∧Zy P o a w B w0 A ρ v h:=fun e l0 g e1 l M hx' hb hf=>by
      obtain ⟨sp,n1,n2,n3,n4,n5,n6,n7,n8,n9⟩:=hb
      rw [hx'] at k1
      simp only [Zn,Zp] at k1
      obtain ⟨cs,⟨ad,len,cap,rfl,q2,_⟩,hv⟩:=k1
      obtain ⟨sp',ad',w1,_,w2,w3⟩:=q2 g (by simp)
      rw [n1] at w1
      cases w1
      cases w2
      split at hf
      · rename_i pl _
        have:=pl.down
        subst this
        obtain ⟨i0,i1,i2⟩:=I6 hf
        rw [n7] at i1
        have hcap:0<sp.cap:=by omega
        have:=w3 hcap
        subst this
        refine ⟨_,i2,fin _ _ (by rw [hv]; exact Rf u1 u3 i0 i1) ?_⟩
        simp only [Zn]
        refine ⟨sp,n1,n2,by omega,by rw [n6]; cases e1 <;> trivial,?_⟩
        have h0:Jm e1 []=0:=by cases e1 <;> rfl
        rw [n5,h0,n3,Nat.zero_add,Nat.add_zero]
      · cases hf
    split at hg
    · rename_i e l hx'
      rw [hx'] at k1
      simp only [Zn,Zp] at k1
      obtain ⟨cs,⟨ad,len,cap,rfl,_,q3⟩,hv⟩:=k1
      split at hg
      · rename_i pl _
        have:=pl.down
        subst this
        obtain ⟨i0,i1,i2⟩:=I6 hg
        obtain ⟨q4,q5⟩:=q3 (by simp)
        subst q4
        obtain ⟨b,k,ds,rfl,w1,w2,w3,w4⟩:=q5 (by omega)
        refine ⟨_,i2,fin _ _ (by rw [hv]; exact Rf u1 u3 i0 i1) ?_⟩
        simp only [Zn]
        exact ⟨b,_,_,rfl,w1,Hc w2 _ _,w4 n.toNat (by omega)⟩
      · cases hg
    · rename_i e l0 g hx'
      have ob:=st.objs g
      split at hg
      · rename_i e1 l hh; rw [hh] at ob; exact own e l0 g e1 l _ hx' ob hg
      · rename_i e1 l hh; rw [hh] at ob; exact own e l0 g e1 l _ hx' ob hg
      · cases hg
    · cases hg
  | arr M σ =>
    simp only [ASf] at hT
    obtain ⟨e',u1,u2,u3,u4⟩:=T3 hT
    simp only [] at hg
    have box:∀ (g:Nat) (p:Xb) (τ:Ty) (q:den τ) (ov:Ov) (M':He→List Value→Prop),evO s x=.ptr g p→Tw A ρ w g τ q ov M' →
        Ur.arrAt τ q p M σ n (fun j=>K (.ptr g (p ++ [j])))=some r→∃ v,K v=some r∧Zy P o a w B w0 A ρ v h:=fun g p τ q ov M' hx' hb hf=>by
      obtain ⟨sp,cs,n1,n2,n3,n4,_,_⟩:=hb
      rw [hx'] at k1
      obtain ⟨q1,q2⟩:=Ht k1 n1 n2
      rw [n4] at q1
      unfold Ur.arrAt at hf
      split at hf
      · rename_i N e dx hd'
        split at hf
        · rename_i pl _ hN
          have:=pl.down
          subst this
          have hN:=Nat.eq_of_beq_eq_true hN
          subst hN
          obtain ⟨i0,i1,i2⟩:=I6 hf
          have hlt:n.toNat<N:=by omega
          have h0:Jm e []=0:=by cases e <;> rfl
          have:=Rc τ p [n.toNat] q ⟨.arr N e,dx⟩ q1 hd' ⟨hlt,by cases e <;> trivial⟩
          refine ⟨_,i2,fin _ _ (by rw [q2]; exact O8 u1 u3 i0 i1) ?_⟩
          have e':sp.off p+n.toNat * Zi e=sp.off (p ++ [n.toNat]):=by
            rw [n3,this.2]; simp only [Jm,h0,Nat.add_zero]
          rw [e']
          exact AHq n1 n2 (by rw [n4]; exact this.1)
        · cases hf
      · cases hf
    split at hg
    · rename_i N e l hx'
      split at hg
      · rename_i pl _ hN
        have:=pl.down
        subst this
        have hN:=Nat.eq_of_beq_eq_true hN
        subst hN
        obtain ⟨i0,i1,i2⟩:=I6 hg
        rw [hx'] at k1
        simp only [Zn,Zp] at k1
        obtain ⟨b,k,cs,q1,q2,q3,q4,q5,q6⟩:=k1
        have hlt:n.toNat<N:=by omega
        refine ⟨_,i2,fin _ _ (by rw [q1]; exact O8 u1 u3 i0 i1) ?_⟩
        simp only [Zn]
        exact ⟨b,_,_,rfl,q2,Hc q3 _ _,q6 n.toNat hlt⟩
      · cases hg
    · rename_i g p hx'
      have ob:=st.objs g
      split at hg
      · rename_i τ q ov hh; rw [hh] at ob; exact box g p τ q ov _ hx' ob hg
      · rename_i τ q ov hh; rw [hh] at ob; exact box g p τ q ov _ hx' ob hg
      · cases hg
    · cases hg
  | slv sz =>
    simp only [ASf] at hT
    simp only [] at hg
    cases hu:P.underlying T with
    | none=>simp [hu] at hT
    | some dd =>
      cases dd with
      | slice e' =>
        simp only [hu] at hT
        split at hg
        · rename_i us hx'
          split at hg
          · rename_i j _
            split at hg
            · rename_i u hu'
              split at hg
              · rename_i hsz
                have hsz:=Nat.eq_of_beq_eq_true hsz
                rw [hx'] at k1
                simp only [Zn] at k1
                obtain ⟨ad,len,cap,q1,q2,vs,q3,q4,⟨zz,q5⟩,q6⟩:=k1
                have hlt:j<us.length:=(List.getElem?_eq_some_iff.1 hu').1
                obtain ⟨b,k,rfl,w1,w2⟩:=q6 (by omega)
                have hzz:zz=sz:=by rw [← q5 u (List.mem_of_getElem? hu')]; exact hsz
                subst hzz
                obtain ⟨v',v1,v2⟩:=Zt.getV us q3 q4 (i:=j) (p:=[]) (x:=u) (by rw [Ms]; exact hu')
                refine ⟨_,hg,fin _ _ (by rw [q1]; exact Rf (n:=(j:Int)) hu hT (by omega) (by omega)) ?_⟩
                simp only [Zn]
                refine ⟨b,_,v',rfl,w1,?_,v1⟩
                rw [v2,M0,AAf us j q5 (by omega)]
                exact Hc w2 _ _
              · cases hg
            · cases hg
          · cases hg
        · cases hg
      | _=>simp [hu] at hT
end
end Go.Proofs.YtmemggdjnfccfaaGreatDoor.Ghost
