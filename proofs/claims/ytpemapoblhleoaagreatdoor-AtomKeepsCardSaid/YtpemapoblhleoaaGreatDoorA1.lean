/- The ghost semantics, and memory as it has it. Conditions: none. -/
import GoSem.Dispatch
import Derived.Deep.MidRow
import Derived.Below
import Derived.Orders
set_option linter.unusedVariables false
set_option linter.unusedSimpArgs false
set_option linter.unusedSectionVars false
set_option linter.unnecessarySimpa false
namespace Go.Proofs.YtpemapoblhleoaaGreatDoor.Ghost
open Go
inductive Ty where
  | bool | int (k:IntKind) | str
  | sl (e:Ty) | arr (n:Nat) (e:Ty) | st (fs:List Ty)
mutual
@[reducible] def den:Ty→Type
  | .bool=>Bool
  | .int _=>Int
  | .str=>ByteArray
  | .sl e=>List (den e)
  | .arr _ e=>List (den e)
  | .st fs=>K1 fs
@[reducible] def K1:List Ty→Type
  | []=>Unit
  | t :: r=>den t×K1 r
end
mutual
def dft:(t:Ty)→den t
  | .bool=>false
  | .int _=>(0:Int)
  | .str=>(⟨#[]⟩:ByteArray)
  | .sl _=>[]
  | .arr n e=>List.replicate n (dft e)
  | .st fs=>BI8 fs
def BI8:(l:List Ty)→K1 l
  | []=>()
  | t :: r=>(dft t,BI8 r)
end
mutual
def Zg:Ty→Nat
  | .st fs=>Gr fs
  | .arr n e=>n * Zg e
  | _=>1
def Gr:List Ty→Nat
  | []=>0
  | t :: r=>Zg t+Gr r
end
structure Dyn where
  τ:Ty
  x:den τ
abbrev Z8:=List Nat
def Gm:(l:List Ty)→Nat→K1 l→Option Dyn
  | [],_,_=>none
  | t :: _,0,x=>some ⟨t,x.1⟩
  | _ :: r,n+1,x=>Gm r n x.2
def getP:Z8→(τ:Ty)→den τ→Option Dyn
  | [],τ,x=>some ⟨τ,x⟩
  | i :: p,.st fs,x=>match Gm fs i x with
    | some d=>getP p d.τ d.x
    | none=>none
  | i :: p,.arr _ e,x=>getP p e (List.getD x i (dft e))
  | _ :: _,_,_=>none
mutual
def Km:(a b:Ty)→Option (PLift (a=b))
  | .bool,.bool=>some ⟨rfl⟩
  | .int k,.int k'=>if h:k=k' then some ⟨by rw [h]⟩ else none
  | .str,.str=>some ⟨rfl⟩
  | .sl a,.sl b=>match Km a b with | some ⟨h⟩=>some ⟨by rw [h]⟩ | none=>none
  | .arr n a,.arr m b=>if hn:n=m then match Km a b with | some ⟨h⟩=>some ⟨by rw [h,hn]⟩ | none=>none else none
  | .st a,.st b=>match Br a b with | some ⟨h⟩=>some ⟨by rw [h]⟩ | none=>none
  | _,_=>none
def Br:(a b:List Ty)→Option (PLift (a=b))
  | [],[]=>some ⟨rfl⟩
  | a :: r,b :: s=>match Km a b with
    | some ⟨h⟩=>match Br r s with
      | some ⟨h'⟩=>some ⟨by rw [h,h']⟩
      | none=>none
    | none=>none
  | _,_=>none
end
def Jj (a b:Ty) (x:den a):Option (den b):=match Km a b with
  | some ⟨h⟩=>some (h ▸ x)
  | none=>none
mutual
def Kk:(l:List Ty)→Nat→Z8→K1 l→Dyn→Option (K1 l)
  | [],_,_,_,_=>none
  | t :: _,0,p,x,d=>match setP t p x.1 d with
    | some y=>some (y,x.2)
    | none=>none
  | _ :: r,n+1,p,x,d=>match Kk r n p x.2 d with
    | some y=>some (x.1,y)
    | none=>none
def setP:(t:Ty)→Z8→den t→Dyn→Option (den t)
  | t,[],_,d=>Jj d.τ t d.x
  | .st fs,i :: p,x,d=>Kk fs i p x d
  | .arr _ e,i :: p,x,d=>match setP e p (List.getD x i (dft e)) d with
    | some y=>some (List.set x i y)
    | none=>none
  | _,_ :: _,_,_=>none
end
def Z4:Z8→Z8→Bool
  | [],[]=>true
  | i :: p,j :: q=>Nat.beq i j && Z4 p q
  | _,_=>false
inductive SV where
  | dat (τ:Ty) (x:den τ) (ov:List (Z8×Option Nat))
  | ptr (g:Nat) (p:Z8)
  | ref (τ:Ty) (x:den τ)
  | refv (v:SV)
  | selfc (f:FuncId) (caps:List SV)
  | glo (k:Nat)
  | elp (g i:Nat) (p:Z8)
  | clo (f:FuncId) (caps:List SV)
  | tup (vs:List SV)
  | slv (vs:List SV)
  | fmap (ks:List Int) (vs:List SV)
  | agv (vs:List SV)
  | nilfn
  | und
  | junk
inductive Obj where
  | box (τ:Ty) (x:den τ) (ov:List (Z8×Option Nat))
  | boxv (v:SV)
  | fbox (τ:Ty) (x:den τ) (ov:List (Z8×Option Nat))
  | fboxv (v:SV)
  | arr (e:Ty) (l:List (den e))
  | frz (e:Ty) (l:List (den e))
  | map (k v:Ty) (l:List (den k×den v))
  | hid
  | dead
  | none
abbrev Y7:=List Obj
abbrev Xs:=List (Nat×SV)
def Xu:Y7→Nat→Obj
  | [],_=>.none
  | o :: _,0=>o
  | _ :: r,n+1=>Xu r n
def Rr:Y7→Nat→Obj→Y7
  | [],0,o=>[o]
  | [],n+1,o=>.none :: Rr [] n o
  | _ :: r,0,o=>o :: r
  | x :: r,n+1,o=>x :: Rr r n o
def Xz:Xs→Nat→SV
  | [],_=>.junk
  | (i,v) :: r,j=>match Nat.beq i j with | true=>v | false=>Xz r j
def La:Xs→Nat→SV→Xs
  | [],j,x=>[(j,x)]
  | (i,v) :: r,j,x=>match Nat.beq i j with | true=>(i,x) :: r | false=>(i,v) :: La r j x
def Fu (s:Xs):Option Nat→SV→Xs
  | none,_=>s
  | some d,v=>La s d v
def Ia (k:List Nat):Xs→Xs
  | []=>[]
  | (i,v) :: r=>match k.any (Nat.beq i) with | true=>Ia k r | false=>(i,v) :: Ia k r
def Hu:Z8→Z8→Option Z8
  | [],q=>some q
  | i :: p,j :: q=>match Nat.beq i j with | true=>Hu p q | false=>none
  | _ :: _,[]=>none
def Jq (p:Z8):List (Z8×Option Nat)→List (Z8×Option Nat)
  | []=>[]
  | (q,g) :: r=>match Hu p q with | some q'=>(q',g) :: Jq p r | none=>Jq p r
def P5 (p:Z8):List (Z8×Option Nat)→List (Z8×Option Nat)
  | []=>[]
  | (q,g) :: r=>match Hu p q with | some _=>P5 p r | none=>(q,g) :: P5 p r
def Em (p:Z8):List (Z8×Option Nat)→List (Z8×Option Nat)
  | []=>[]
  | (q,g) :: r=>(p ++ q,g) :: Em p r
def AMm:Z8→Z8→Bool
  | [],[]=>false
  | [],_ :: _=>true
  | _ :: _,[]=>false
  | i :: p,j :: q=>Nat.blt i j || Nat.beq i j && AMm p q
def AEf (e:Z8×Option Nat):List (Z8×Option Nat)→List (Z8×Option Nat)
  | []=>[e]
  | x :: r=>match AMm e.1 x.1 with | true=>e :: x :: r | false=>x :: AEf e r
def Ma:List (Z8×Option Nat)→List (Z8×Option Nat)→List (Z8×Option Nat)
  | [],ov=>ov
  | e :: r,ov=>Ma r (AEf e ov)
def getV:SV→Z8→Option SV
  | v,[]=>some v
  | .agv vs,i :: p=>getVL vs i p
  | _,_ :: _=>none
where getVL:List SV→Nat→Z8→Option SV
  | [],_,_=>none
  | v :: _,0,p=>getV v p
  | _ :: r,n+1,p=>getVL r n p
def resolve (h:Nat→Obj) (τ:Ty) (x:den τ):List (Z8×Option Nat)→Option (den τ)
  | []=>some x
  | (q,some g) :: r=>match h g with
    | .arr e l=>match setP τ q x ⟨.sl e,l⟩ with
      | some y=>resolve h τ y r
      | none=>none
    | .frz e l=>match setP τ q x ⟨.sl e,l⟩ with
      | some y=>resolve h τ y r
      | none=>none
    | _=>none
  | (_,none) :: _=>none
def Ly:den (.arr 11 .str):=[(⟨#[]⟩:ByteArray),(⟨#[109,111,118,101]⟩:ByteArray),(⟨#[112,117,115,104]⟩:ByteArray),(⟨#[103,101,116]⟩:ByteArray),(⟨#[100,114,111,112]⟩:ByteArray),(⟨#[112,117,116]⟩:ByteArray),(⟨#[116,97,107,101]⟩:ByteArray),(⟨#[103,105,118,101]⟩:ByteArray),(⟨#[116,114,97,100,101]⟩:ByteArray),(⟨#[108,111,111,107]⟩:ByteArray),(⟨#[111,119,110]⟩:ByteArray)]
def Lz:den (.arr 4 .str):=[(⟨#[110,111,114,116,104]⟩:ByteArray),(⟨#[101,97,115,116]⟩:ByteArray),(⟨#[115,111,117,116,104]⟩:ByteArray),(⟨#[119,101,115,116]⟩:ByteArray)]
def R3:Nat→Option Dyn:=fun k=>match k with
  | 0=>some ⟨(.arr 11 .str),Ly⟩
  | 1=>some ⟨(.arr 4 .str),Lz⟩
  | _=>none
def AFr {R:Type} (o:Option Dyn) (M:Nat) (σ:Ty) (K:(l:List (den σ))→Option R):Option R:=match o with
  | some ⟨.arr N e,l⟩=>(match Km e σ,Nat.beq N M with | some ⟨h⟩,true=>K (h ▸ l) | _,_=>none)
  | _=>none
inductive Opd where
  | t (i:Nat)
  | g (k:Nat)
  | c (τ:Ty) (x:den τ)
  | f (f:FuncId)
  | nf
def evO (s:Nat→SV):Opd→SV
  | .t i=>s i
  | .g k=>.glo k
  | .c τ x=>.dat τ x []
  | .f f=>.clo f []
  | .nf=>.nilfn
inductive Sh where
  | d (τ:Ty)
  | ref (τ:Ty)
  | refv (s:Sh)
  | selfc (f:FuncId) (l:List Sh)
  | clo (f:FuncId) (l:List Sh)
  | nilfn
  | agv (l:List Sh)
  | slv (l:List Sh)
  | fmap (ks:List Int) (l:List Sh)
mutual
@[reducible] def dSh:Sh→Type
  | .d τ=>den τ
  | .ref τ=>den τ
  | .refv s=>dSh s
  | .selfc _ l=>Xd l
  | .clo _ l=>Xd l
  | .nilfn=>Unit
  | .agv l=>Xd l
  | .slv l=>Xd l
  | .fmap _ l=>Xd l
@[reducible] def Xd:List Sh→Type
  | []=>Unit
  | s :: r=>dSh s×Xd r
end
mutual
def inj:(s:Sh)→dSh s→SV
  | .d τ,x=>.dat τ x []
  | .ref τ,x=>.ref τ x
  | .refv s,x=>.refv (inj s x)
  | .selfc f l,x=>.selfc f (Kf l x)
  | .clo f l,x=>.clo f (Kf l x)
  | .nilfn,_=>.nilfn
  | .agv l,x=>.agv (Kf l x)
  | .slv l,x=>.slv (Kf l x)
  | .fmap ks l,x=>.fmap ks (Kf l x)
def Kf:(l:List Sh)→Xd l→List SV
  | [],_=>[]
  | s :: r,x=>inj s x.1 :: Kf r x.2
end
def Ax:List Int→List Int→Bool
  | [],[]=>true
  | a :: r,b :: s=>(a == b) && Ax r s
  | _,_=>false
mutual
def prj:(s:Sh)→SV→Option (dSh s)
  | .d τ,.dat σ x []=>Jj σ τ x
  | .ref τ,.ref σ x=>Jj σ τ x
  | .refv s,.refv v=>prj s v
  | .selfc f l,.selfc g vs=>match Nat.beq f g with | true=>Pc l vs | false=>none
  | .clo f l,.clo g vs=>match Nat.beq f g with | true=>Pc l vs | false=>none
  | .nilfn,.nilfn=>some ()
  | .agv l,.agv vs=>Pc l vs
  | .slv l,.slv vs=>Pc l vs
  | .fmap ks l,.fmap ks' vs=>match Ax ks ks' with | true=>Pc l vs | false=>none
  | _,_=>none
def Pc:(l:List Sh)→List SV→Option (Xd l)
  | [],[]=>some ()
  | s :: r,v :: vs=>match prj s v with
    | some x=>match Pc r vs with
      | some y=>some (x,y)
      | none=>none
    | none=>none
  | _,_=>none
end
inductive LT where
  | d (τ:Ty)
  | v (agg:Bool) (n:Nat)
inductive FT where
  | d (τ:Ty)
  | v (sizes:List Nat)
inductive IT where
  | sl (e:Ty)
  | arr (n:Nat) (e:Ty)
  | slv (n:Nat)
inductive GOp where
  | move (x:Opd)
  | mknil (k:Nat) (e:Ty)
  | pick (c a b:Opd)
  | newbox (k:Nat) (τ:Ty) (nils:List (Z8×Nat))
  | newboxv (k:Nat) (z:SV)
  | box (k:Nat) (x:Opd)
  | load (t:LT) (a:Opd)
  | store (t:LT) (a v:Opd)
  | bin (op:BinOp) (x y:Opd)
  | eqs (τ:Ty) (neg:Bool) (x y:Opd)
  | not (x:Opd)
  | neg (x:Opd)
  | conv (k:IntKind) (x:Opd)
  | fieldAddr (t:FT) (j:Nat) (a:Opd)
  | field (τ:Ty) (j:Nat) (a:Opd)
  | index (t:IT) (x i:Opd)
  | len (x:Opd)
  | lens (x:Opd)
  | slicearr (n:Nat) (e:Ty) (x:Opd)
  | max (xs:List Opd)
  | min (xs:List Opd)
  | build (τ:Ty) (parts:List (Nat×Opd)) (nils:List (Z8×Nat))
  | buildv (sizes:List Nat) (parts:List Opd)
  | slice (k:Nat) (e:Ty) (parts:List Opd)
  | slicev (size:Nat) (parts:List Opd)
  | make (k:Nat) (e:Ty) (n:Opd)
  | append (k:Nat) (e:Ty) (x y:Opd)
  | extract (x:Opd) (i:Nat)
  | func (f:FuncId) (caps:List Opd)
  | mkmap (k:Nat) (κ ν:Ty)
  | lookup (κ ν:Ty) (m i:Opd)
  | lookv (m i:Opd) (ok:Bool)
  | slx (e:Ty) (x:Opd) (lo hi:Option Opd)
  | mapset (κ ν:Ty) (m i v:Opd)
  | mapent (κ ν:Ty) (m i:Opd)
  | mapst (κ ν:Ty) (m e v:Opd)
  | call (f:Opd) (args:List Opd) (res:List Sh) (keep:List ((Nat×Z8)×Nat)) (opt:Bool)
  | fail
abbrev Eff:=List (Nat×Obj)
def Pm (h:Y7):Eff→Y7
  | []=>h
  | (g,o) :: r=>Pm (Rr h g o) r
def ACo {α:Type} (f:α→α→Bool):List α→List α→Bool
  | x :: r,y :: r'=>f x y && ACo f r r'
  | _,_=>true
mutual
def eqT:(t:Ty)→den t→den t→Bool
  | .bool,x,y=>x == y
  | .int _,x,y=>x == y
  | .str,x,y=>x == y
  | .sl _,_,_=>false
  | .arr _ e,x,y=>ACo (eqT e) x y
  | .st fs,x,y=>ABk fs x y
def ABk:(l:List Ty)→K1 l→K1 l→Bool
  | [],_,_=>true
  | t :: r,x,y=>eqT t x.1 y.1 && ABk r x.2 y.2
end
mutual
def BI7:Ty→Bool
  | .sl _=>false
  | .arr _ e=>BI7 e
  | .st fs=>ARs fs
  | _=>true
def ARs:List Ty→Bool
  | []=>true
  | t :: r=>BI7 t && ARs r
end
section
variable {R:Type}
def Do (op:BinOp) (k:IntKind) (x y:Int) (K:SV→Option R):Option R :=
  match op with
  | .add=>K (.dat (.int k) (k.wrap (x+y)) [])
  | .sub=>K (.dat (.int k) (k.wrap (x - y)) [])
  | .mul=>K (.dat (.int k) (k.wrap (x * y)) [])
  | .rem=>if y=0 then none else K (.dat (.int k) (Int.tmod x y) [])
  | .quo=>if y=0 then none else K (.dat (.int k) (k.wrap (Int.tdiv x y)) [])
  | .eql=>K (.dat .bool (decide (x=y)) [])
  | .neq=>K (.dat .bool (!decide (x=y)) [])
  | .lss=>K (.dat .bool (decide (x<y)) [])
  | .leq=>K (.dat .bool (decide (x≤y)) [])
  | .gtr=>K (.dat .bool (decide (y<x)) [])
  | .geq=>K (.dat .bool (decide (y≤x)) [])
  | _=>none
def AH1 (op:BinOp) (a b:SV) (K:SV→Option R):Option R :=
  match a,b with
  | .dat (.int k) x _,.dat (.int k') y _=>if k=k' then Do op k x y K else none
  | _,_=>none
def ALj (τ:Ty) (neg:Bool) (a b:SV) (K:SV→Option R):Option R :=
  match a,b with
  | .dat σ x [],.dat ρ y []=>match Jj σ τ x,Jj ρ τ y,BI7 τ with
    | some x,some y,true=>K (.dat .bool (match neg with | true => !(eqT τ x y) | false=>eqT τ x y) [])
    | _,_,_=>none
  | _,_=>none
def Fz (τ:Ty) (x:den τ) (ov:List (Z8×Option Nat)) (p:Z8) (K:SV→Option R):Option R :=
  match getP p τ x with
  | some d=>K (.dat d.τ d.x (Jq p ov))
  | none=>none
mutual
def Jb:SV→Nat
  | .dat τ _ _=>Zg τ
  | .agv vs=>K6 vs
  | _=>1
def K6:List SV→Nat
  | []=>0
  | v :: r=>Jb v+K6 r
end
def Ga (n:Nat):SV→Bool
  | .junk=>false
  | .und=>false
  | .tup _=>false
  | v=>Nat.beq (Jb v) n
def Tr:List Nat→List SV→Bool
  | [],[]=>true
  | n :: r,v :: s=>Ga n v && Tr r s
  | _,_=>false
def Bk (n:Nat):List SV→Bool
  | []=>true
  | v :: s=>Ga n v && Bk n s
def okL:LT→SV→Bool
  | .d τ,.dat σ _ _=>(match Km σ τ with | some _=>true | none=>false)
  | .v true n,.agv vs=>Nat.beq (K6 vs) n
  | .v false n,.clo _ _=>Nat.beq n 1
  | .v false n,.nilfn=>Nat.beq n 1
  | _,_=>false
def A9 (ok:Bool) (v:SV) (b:Bool):SV:=match ok with | true=>.tup [v,.dat .bool b []] | false=>v
def Wg (n:Int):List Int→List SV→(SV→Bool→Option R)→Option R
  | k :: ks,v :: vs,K=>bif decide (n=k) then K v true else Wg n ks vs K
  | _,_,K=>K .nilfn false
def Lj (s:Nat→SV):Option Opd→Int→Option Int
  | none,d=>some d
  | some x,_=>match evO s x with | .dat (.int .i64) n _=>some n | _=>none
def Id (h:Nat→Obj) (a:SV) (K:SV→Option R):Option R :=
  match a with
  | .ref τ x=>K (.dat τ x [])
  | .refv v=>K v
  | .selfc f vs=>K (.clo f (.selfc f vs :: vs))
  | .glo k=>match R3 k with | some d=>K (.dat d.τ d.x []) | none=>none
  | .ptr g p=>match h g with
    | .box τ x ov=>Fz τ x ov p K
    | .fbox τ x ov=>Fz τ x ov p K
    | .boxv v=>(match getV v p with | some u=>K u | none=>none)
    | .fboxv v=>(match getV v p with | some u=>K u | none=>none)
    | _=>none
  | .elp g i p=>match h g with
    | .arr e l=>Fz e (List.getD l i (dft e)) [] p K
    | .frz e l=>Fz e (List.getD l i (dft e)) [] p K
    | _=>none
  | _=>none
def Ie (t:LT) (h:Nat→Obj) (a:SV) (K:SV→Option R):Option R :=
  Id h a fun v=>match okL t v with | true=>K v | false=>none
mutual
def Im:SV→SV→Bool
  | .agv vs,.agv us=>Io vs us
  | .dat τ _ [],.dat σ _ []=>(match Km τ σ with | some _=>true | none=>false)
  | .nilfn,.nilfn=>true
  | .nilfn,.clo _ _=>true
  | .clo _ _,.nilfn=>true
  | .clo _ _,.clo _ _=>true
  | _,_=>false
def Io:List SV→List SV→Bool
  | [],[]=>true
  | v :: r,u :: s=>Im v u && Io r s
  | _,_=>false
end
mutual
def Bv:SV→Bool
  | .nilfn=>true
  | .agv vs=>ACh vs
  | .dat (.int _) x []=>decide (x=(0:Int))
  | .dat .bool x [] => !x
  | _=>false
def ACh:List SV→Bool
  | []=>true
  | v :: r=>Bv v && ACh r
end
def P9 (h:Nat→Obj) (a v:SV) (K:Eff→Option R):Option R :=
  match a with
  | .ptr g p=>match h g with
    | .box τ x ov=>(match v with
      | .dat σ y ov'=>match setP τ p x ⟨σ,y⟩ with
        | some x'=>K [(g,.box τ x' (Ma (Em p ov') (P5 p ov)))]
        | none=>none
      | _=>none)
    | .boxv u=>(match p,Im u v with | [],true=>K [(g,.boxv v)] | _,_=>none)
    | _=>none
  | .elp g i p=>match h g with
    | .arr e l=>(match v with
      | .dat σ y []=>match setP e p (List.getD l i (dft e)) ⟨σ,y⟩ with
        | some y'=>K [(g,.arr e (List.set l i y'))]
        | none=>none
      | _=>none)
    | _=>none
  | _=>none
def inB (n:Int) (m:Nat) (K:Nat→Option R):Option R:=if 0≤n∧n<(m:Int) then K n.toNat else none
def X9 (h:Nat→Obj) (t:FT) (j:Nat) (a:SV) (K:SV→Option R):Option R :=
  match t with
  | .d σ=>(match σ with
    | .st fs=>bif Nat.blt j fs.length then (match a with
      | .ptr g p=>(match h g with
        | .box τ x _=>fld τ x p σ (K (.ptr g (p ++ [j])))
        | .fbox τ x _=>fld τ x p σ (K (.ptr g (p ++ [j])))
        | _=>none)
      | .elp g i p=>(match h g with
        | .arr e _=>fld e (dft e) p σ (K (.elp g i (p ++ [j])))
        | .frz e _=>fld e (dft e) p σ (K (.elp g i (p ++ [j])))
        | _=>none)
      | .ref τ x=>(match Km τ σ,getP [j] τ x with | some _,some d=>K (.ref d.τ d.x) | _,_=>none)
      | _=>none) else none
    | _=>none)
  | .v sizes=>(match a with
    | .refv (.agv vs)=>(match natsEq (sizesV vs) sizes,vs[j]? with | true,some v=>K (.refv v) | _,_=>none)
    | .ptr g p=>(match h g with
      | .boxv u=>fldV u p sizes j (K (.ptr g (p ++ [j])))
      | .fboxv u=>fldV u p sizes j (K (.ptr g (p ++ [j])))
      | _=>none)
    | _=>none)
where
  fld (τ:Ty) (x:den τ) (p:Z8) (σ:Ty) (r:Option R):Option R:=match getP p τ x with
    | some d=>(match Km d.τ σ with | some _=>r | none=>none)
    | none=>none
  sizesV:List SV→List Nat
    | []=>[]
    | v :: r=>Jb v :: sizesV r
  natsEq:List Nat→List Nat→Bool
    | [],[]=>true
    | a :: r,b :: s=>Nat.beq a b && natsEq r s
    | _,_=>false
  fldV (u:SV) (p:Z8) (sizes:List Nat) (j:Nat) (r:Option R):Option R:=match getV u p with
    | some (.agv vs)=>bif natsEq (sizesV vs) sizes && Nat.blt j sizes.length then r else none
    | _=>none
def G8 (t:IT) (h:Nat→Obj) (x i:SV) (K:SV→Option R):Option R :=
  match i with
  | .dat (.int _) n _=>(match t with
    | .sl σ=>(match x with
      | .dat (.sl e) l []=>(match Km e σ with | some _=>inB n (List.length l) fun j=>K (.ref e (List.getD l j (dft e))) | none=>none)
      | .dat (.sl _) _ [([],some g)]=>(match h g with
        | .arr e l=>(match Km e σ with | some _=>inB n l.length fun j=>K (.elp g j []) | none=>none)
        | .frz e l=>(match Km e σ with | some _=>inB n l.length fun j=>K (.elp g j []) | none=>none)
        | _=>none)
      | _=>none)
    | .arr M σ=>(match x with
      | .ref (.arr N e) l=>(match Km e σ,Nat.beq N M with | some _,true=>inB n N fun j=>K (.ref e (List.getD l j (dft e))) | _,_=>none)
      | .ptr g p=>(match h g with
        | .box τ x _=>arrAt τ x p M σ n fun j=>K (.ptr g (p ++ [j]))
        | .fbox τ x _=>arrAt τ x p M σ n fun j=>K (.ptr g (p ++ [j]))
        | _=>none)
      | _=>none)
    | .slv sz=>(match x with
      | .slv vs=>(match n with
        | .ofNat j=>(match vs[j]? with | some v=>(match Nat.beq (Jb v) sz with | true=>K (.refv v) | false=>none) | none=>none)
        | _=>none)
      | _=>none))
  | _=>none
where
  arrAt (τ:Ty) (x:den τ) (p:Z8) (M:Nat) (σ:Ty) (n:Int) (K:Nat→Option R):Option R:=match getP p τ x with
    | some ⟨.arr N e,_⟩=>(match Km e σ,Nat.beq N M with | some _,true=>inB n N K | _,_=>none)
    | _=>none
def ABv (h:Nat→Obj) (x:SV) (K:SV→Option R):Option R :=
  match x with
  | .dat (.sl _) l []=>K (.dat (.int .i64) ((List.length l:Nat):Int) [])
  | .dat (.sl _) _ [([],some g)]=>(match h g with
    | .arr _ l=>K (.dat (.int .i64) ((List.length l:Nat):Int) [])
    | .frz _ l=>K (.dat (.int .i64) ((List.length l:Nat):Int) [])
    | _=>none)
  | .slv vs=>K (.dat (.int .i64) ((List.length vs:Nat):Int) [])
  | _=>none
def Tb (τ:Ty) (s:Nat→SV):(x:den τ)→(ov:List (Z8×Option Nat))→List (Nat×Opd)→(SV→Option R)→Option R
  | x,ov,[],K=>K (.dat τ x ov)
  | x,ov,(j,o) :: r,K=>match evO s o with
    | .dat σ y ov'=>match setP τ [j] x ⟨σ,y⟩ with
      | some x'=>Tb τ s x' (P5 [j] ov ++ Em [j] ov') r K
      | none=>none
    | _=>none
def Ra (τ:Ty) (x:den τ) (h:Nat→Obj):List (Z8×Nat)→Option (List (Z8×Option Nat)×Eff)
  | []=>some ([],[])
  | (p,k) :: r=>match h k,getP p τ x,r.any (fun q=>Nat.beq q.2 k || Z4 q.1 p),Ra τ x h r with
    | .none,some ⟨.sl e,_⟩,false,some (ov,es)=>some ((p,some k) :: ov,(k,.arr e []) :: es)
    | _,_,_,_=>none
def Wc (e:Ty) (s:Nat→SV):List Opd→Option (List (den e))
  | []=>some []
  | o :: r=>match evO s o with
    | .dat σ y []=>match Jj σ e y with
      | some z=>match Wc e s r with
        | some zs=>some (z :: zs)
        | none=>none
      | none=>none
    | _=>none
end
mutual
def noSl:Ty→Bool
  | .sl _=>false
  | .arr _ e=>noSl e
  | .st fs=>AHf fs
  | _=>true
def AHf:List Ty→Bool
  | []=>true
  | t :: r=>noSl t && AHf r
end
def Ld:List Sh→Bool
  | []=>true
  | .d τ :: r=>noSl τ && Ld r
  | _ :: _=>false
def Pa:List (Z8×Option Nat)→List Nat
  | []=>[]
  | (_,some g) :: r=>g :: Pa r
  | (_,none) :: r=>Pa r
def Bi (g:Nat):Z8→SV→Option (FuncId×List SV)
  | [],.clo f (.ptr g' [] :: caps)=>match Nat.beq g g' with | true=>some (f,caps) | false=>none
  | _,_=>none
mutual
def Y0 (h:Nat→Obj):Nat→SV→Option (SV×List Nat)
  | 0,_=>none
  | n+1,v=>match v with
    | .dat τ x ov=>match resolve h τ x ov with
      | some y=>some (.dat τ y [],Pa ov)
      | none=>none
    | .ptr g p=>match h g with
      | .box τ x ov=>match resolve h τ x ov with
        | some y=>match getP p τ y with
          | some d=>some (.ref d.τ d.x,g :: Pa ov)
          | none=>none
        | none=>none
      | .fbox τ x ov=>match resolve h τ x ov with
        | some y=>match getP p τ y with
          | some d=>some (.ref d.τ d.x,g :: Pa ov)
          | none=>none
        | none=>none
      | .boxv v=>match Bi g p v with
        | some (f,caps)=>match U0 h n caps with
          | some (us,ids)=>some (.selfc f us,g :: ids)
          | none=>none
        | none=>match getV v p with
          | some v=>match Y0 h n v with
            | some (u,ids)=>some (.refv u,g :: ids)
            | none=>none
          | none=>none
      | .fboxv v=>match Bi g p v with
        | some (f,caps)=>match U0 h n caps with
          | some (us,ids)=>some (.selfc f us,g :: ids)
          | none=>none
        | none=>match getV v p with
          | some v=>match Y0 h n v with
            | some (u,ids)=>some (.refv u,g :: ids)
            | none=>none
          | none=>none
      | _=>none
    | .ref τ x=>some (.ref τ x,[])
    | .refv v=>match Y0 h n v with | some (u,ids)=>some (.refv u,ids) | none=>none
    | .selfc f caps=>match U0 h n caps with | some (us,ids)=>some (.selfc f us,ids) | none=>none
    | .clo f caps=>match U0 h n caps with | some (us,ids)=>some (.clo f us,ids) | none=>none
    | .agv vs=>match U0 h n vs with | some (us,ids)=>some (.agv us,ids) | none=>none
    | .slv vs=>match U0 h n vs with | some (us,ids)=>some (.slv us,ids) | none=>none
    | .nilfn=>some (.nilfn,[])
    | _=>none
def U0 (h:Nat→Obj):Nat→List SV→Option (List SV×List Nat)
  | 0,_=>none
  | _+1,[]=>some ([],[])
  | n+1,v :: vs=>match Y0 h n v with
    | some (u,ids)=>match U0 h n vs with
      | some (us,ids')=>some (u :: us,ids ++ ids')
      | none=>none
    | none=>none
end
def Qa (h:Nat→Obj):List Nat→Option Eff
  | []=>some []
  | g :: r=>match h g with
    | .arr e l=>match Qa h r with | some es=>some ((g,.frz e l) :: es) | none=>none
    | .frz _ _=>Qa h r
    | .box τ x ov=>match Qa h r with | some es=>some ((g,.fbox τ x ov) :: es) | none=>none
    | .boxv v=>match Qa h r with | some es=>some ((g,.fboxv v) :: es) | none=>none
    | .fbox .. => Qa h r
    | .fboxv _=>Qa h r
    | _=>none
abbrev Z1:=List (Nat×Z8)
def Zp (fr:Z1) (k:Nat×Z8):Bool:=fr.any fun f=>Nat.beq f.1 k.1 && Z4 f.2 k.2
def Zr (fr:Z1):List ((Nat×Z8)×Nat)→Bool
  | []=>true
  | (k,_) :: r=>Zp fr k && !(r.any fun q=>Nat.beq q.1.1 k.1 && Z4 q.1.2 k.2) && Zr fr r
def Ti:List SV→List ((Nat×Z8)×Nat)→Option (List SV×Eff)
  | vs,[]=>some (vs,[])
  | vs,((i,p),k) :: r=>match vs[i]? with
    | some (.dat τ x ov)=>match getP p τ x with
      | some ⟨.sl e,l⟩=>match setP τ p x ⟨.sl e,[]⟩ with
        | some x'=>match Ti (vs.set i (.dat τ x' (ov ++ [(p,some k)]))) r with
          | some (us,es)=>some (us,(k,.arr e l) :: es)
          | none=>none
        | none=>none
      | _=>none
    | _=>none
section
variable {R:Type}
def Or:List SV→SV
  | [v]=>v
  | vs=>.tup vs
def Yp (κ ν:Ty) (i:den κ):List (den κ×den ν)→Option (den ν)
  | []=>none
  | (k,v) :: r=>if eqT κ i k then some v else Yp κ ν i r
def Gp (κ ν:Ty) (i:den κ) (x:den ν):List (den κ×den ν)→List (den κ×den ν)
  | []=>[(i,x)]
  | (k,v) :: r=>if eqT κ i k then (i,x) :: r else (k,v) :: Gp κ ν i x r
def Ek (κ ν:Ty) (i:den κ):List (den κ×den ν)→Nat
  | []=>0
  | (k,_) :: r=>if eqT κ i k then 0 else Ek κ ν i r+1
def Ro (κ ν:Ty) (i:den κ) (l:List (den κ×den ν)):List (den κ×den ν):=match Yp κ ν i l with
  | some _=>l
  | none=>l ++ [(i,dft ν)]
def Nf (κ ν:Ty):Nat→den ν→List (den κ×den ν)→List (den κ×den ν)
  | _,_,[]=>[]
  | 0,x,(k,_) :: r=>(k,x) :: r
  | n+1,x,e :: r=>e :: Nf κ ν n x r
def We (s:Nat→SV):List Opd→Option (IntKind×List Int)
  | []=>none
  | [o]=>match evO s o with | .dat (.int k) n _=>some (k,[n]) | _=>none
  | o :: r=>match evO s o with
    | .dat (.int k) n _=>match We s r with
      | some (k',l)=>if k=k' then some (k,n :: l) else none
      | none=>none
    | _=>none
abbrev Calls:=FuncId→List SV→(res:List Sh)→Option (Xd res×Z1)
def Hd (h:Nat→Obj):List ((Nat×Z8)×Nat)→Bool
  | []=>true
  | (_,k) :: r=>(match h k with | .none=>true | _=>false) && Hd h r && !(r.any fun q=>Nat.beq q.2 k)
def Mk (h:Nat→Obj) (ids:List Nat) (res:List Sh) (x:Xd res) (keep:List ((Nat×Z8)×Nat)) (K:SV→Eff→Option R):Option R :=
  match (match Ld res,keep with | true,[]=>some [] | _,_=>Qa h ids) with
  | some es=>(match Ti (Kf res x) keep with
    | some (vs,es')=>K (Or vs) (es ++ es')
    | none=>none)
  | none=>none
def Rx (cf:Calls) (h:Nat→Obj) (f:SV) (args:List SV) (res:List Sh) (keep:List ((Nat×Z8)×Nat)) (opt:Bool) (K:SV→Eff→Option R):Option R :=
  match f with
  | .clo fid caps=>match U0 h 60 (args ++ caps) with
    | some (as,ids)=>(cf fid as res).bind fun r =>
        bif Zr r.2 keep then (bif Hd h keep then Mk h ids res r.1 keep K else none)
        else (match opt with | true=>Mk h ids res r.1 [] K | false=>none)
    | none=>none
  | .refv _=>none
  | _=>none
def gop (cf:Calls) (s:Nat→SV) (h:Nat→Obj) (o:GOp) (K:SV→Eff→Option R):Option R :=
  match o with
  | .move x=>K (evO s x) []
  | .mknil k e=>match h k with
    | .none=>K (.dat (.sl e) [] [([],some k)]) [(k,.arr e [])]
    | _=>none
  | .pick c a b=>match evO s c with
    | .dat .bool t _=>(match evO s a,evO s b with
      | .dat .bool x _,.dat .bool y _=>K (.dat .bool (bif t then x else y) []) []
      | .dat .bool x _,.und=>bif t then K (.dat .bool x []) [] else none
      | .und,.dat .bool y _=>bif t then none else K (.dat .bool y []) []
      | _,_=>none)
    | _=>none
  | .newbox k τ nils=>match h k,Ra τ (dft τ) h nils,nils.any (fun q=>Nat.beq q.2 k) with
    | .none,some (ov,es),false=>K (.ptr k []) ((k,.box τ (dft τ) ov) :: es)
    | _,_,_=>none
  | .newboxv k z=>match h k,Bv z with
    | .none,true=>K (.ptr k []) [(k,.boxv z)]
    | _,_=>none
  | .box k x=>match h k with
    | .none=>(match evO s x with
      | .dat τ x ov=>K (.ptr k []) [(k,.box τ x ov)]
      | .clo f caps=>K (.ptr k []) [(k,.boxv (.clo f caps))]
      | _=>none)
    | _=>none
  | .load t a=>Ie t h (evO s a) fun v=>K v []
  | .store t a v=>(match okL t (evO s v) with | true=>P9 h (evO s a) (evO s v) fun e=>K .junk e | false=>none)
  | .bin op x y=>AH1 op (evO s x) (evO s y) fun v=>K v []
  | .eqs τ neg x y=>ALj τ neg (evO s x) (evO s y) fun v=>K v []
  | .not x=>match evO s x with | .dat .bool b _=>K (.dat .bool (!b) []) [] | _=>none
  | .neg x=>match evO s x with | .dat (.int k) n _=>K (.dat (.int k) (k.wrap (0 - n)) []) [] | _=>none
  | .conv k x=>match evO s x with | .dat (.int _) n _=>K (.dat (.int k) (k.wrap n) []) [] | _=>none
  | .fieldAddr t j a=>X9 h t j (evO s a) fun v=>K v []
  | .field τ j a=>match evO s a with
    | .dat σ x ov=>(match Km σ τ with | some _=>Fz σ x ov [j] fun v=>K v [] | none=>none)
    | _=>none
  | .index t x i=>G8 t h (evO s x) (evO s i) fun v=>K v []
  | .len x=>ABv h (evO s x) fun v=>K v []
  | .lens x=>match evO s x with
    | .dat .str y _=>K (.dat (.int .i64) ((ByteArray.size y:Nat):Int) []) []
    | _=>none
  | .max xs=>match We s xs with | some (k,n :: l)=>K (.dat (.int k) (l.foldl (fun a b=>if a<b then b else a) n) []) [] | _=>none
  | .min xs=>match We s xs with | some (k,n :: l)=>K (.dat (.int k) (l.foldl (fun a b=>if b<a then b else a) n) []) [] | _=>none
  | .build τ parts nils=>match Ra τ (dft τ) h nils with
    | some (ov,es)=>Tb τ s (dft τ) ov parts fun v=>K v es
    | none=>none
  | .buildv sizes parts=>match Tr sizes (parts.map (evO s)) with | true=>K (.agv (parts.map (evO s))) [] | false=>none
  | .slice k e parts=>match h k,Wc e s parts with
    | .none,some l=>K (.dat (.sl e) [] [([],some k)]) [(k,.arr e l)]
    | _,_=>none
  | .slicev n parts=>match Bk n (parts.map (evO s)) with | true=>K (.slv (parts.map (evO s))) [] | false=>none
  | .make k e n=>match h k,evO s n with
    | .none,.dat (.int _) n _=>if 0≤n∧n≤1048576 then K (.dat (.sl e) [] [([],some k)]) [(k,.arr e (List.replicate n.toNat (dft e)))] else none
    | _,_=>none
  | .append k e x y=>match evO s x,evO s y,h k with
    | .dat (.sl e0) _ [([],some g)],.dat σ l' ov',.none=>(match h g with
      | .arr e1 l=>(match Km e0 e,Km e1 e,resolve h σ l' ov' with
        | some _,some _,some l'=>(match Jj σ (.sl e1) l' with
          | some l'=>if List.length l+List.length l'≤1048576 then K (.dat (.sl e) [] [([],some k)]) [(g,.dead),(k,.arr e1 (l ++ l'))] else none
          | none=>none)
        | _,_,_=>none)
      | _=>none)
    | _,_,_=>none
  | .extract x i=>match evO s x with | .tup vs=>(match vs[i]? with | some v=>K v [] | none=>none) | _=>none
  | .func f caps=>K (.clo f (caps.map (evO s))) []
  | .mkmap k κ ν=>match h k with
    | .none=>K (.ptr k []) [(k,.map κ ν [])]
    | _=>none
  | .lookup κ0 ν0 m i=>match evO s m,evO s i with
    | .ptr g [],.dat σ y []=>(match h g with
      | .map κ ν l=>(match Jj σ κ y,Km κ κ0,Km ν ν0 with
        | some i,some _,some _=>K (.dat ν ((Yp κ ν i l).getD (dft ν)) []) []
        | _,_,_=>none)
      | _=>none)
    | _,_=>none
  | .mapset κ0 ν0 m i v=>match evO s m,evO s i,evO s v with
    | .ptr g [],.dat σ y [],.dat ρ z []=>(match h g with
      | .map κ ν l=>(match Jj σ κ y,Jj ρ ν z,Km κ κ0,Km ν ν0 with
        | some i,some x,some _,some _=>K .junk [(g,.map κ ν (Gp κ ν i x l))]
        | _,_,_,_=>none)
      | _=>none)
    | _,_,_=>none
  | .mapent κ0 ν0 m i=>match evO s m,evO s i with
    | .ptr g [],.dat σ y []=>(match h g with
      | .map κ ν l=>(match Jj σ κ y,Km κ κ0,Km ν ν0 with
        | some i,some _,some _=>K (.tup [.dat ν ((Yp κ ν i l).getD (dft ν)) [],.dat (.int .i64) ((Ek κ ν i l:Nat):Int) []]) [(g,.map κ ν (Ro κ ν i l))]
        | _,_,_=>none)
      | _=>none)
    | _,_=>none
  | .mapst κ0 ν0 m e v=>match evO s m,evO s e,evO s v with
    | .ptr g [],.dat (.int .i64) n _,.dat ρ z []=>(match h g with
      | .map κ ν l=>(match Jj ρ ν z,Km κ κ0,Km ν ν0 with
        | some x,some _,some _=>if (0:Int)≤n∧n<((List.length l:Nat):Int) then K .junk [(g,.map κ ν (Nf κ ν (Int.toNat n) x l))] else none
        | _,_,_=>none)
      | _=>none)
    | _,_,_=>none
  | .lookv m i ok=>match evO s m,evO s i with
    | .fmap ks vs,.dat (.int .i64) n []=>Wg n ks vs fun v b=>K (A9 ok v b) []
    | _,_=>none
  | .slx e x lo hi=>match evO s x with
    | .dat (.sl _) _ [([],some g)]=>(match h g with
      | .frz e1 l=>(match Km e1 e,Lj s lo 0,Lj s hi ((List.length l:Nat):Int) with
        | some _,some a,some b=>if 0≤a∧a≤b∧b≤((List.length l:Nat):Int) then K (.dat (.sl e1) ((l.take b.toNat).drop a.toNat) []) [] else none
        | _,_,_=>none)
      | _=>none)
    | _=>none
  | .call f args res keep opt=>Rx cf h (evO s f) (args.map (evO s)) res keep opt K
  | .fail=>none
  | .slicearr M σ x=>match evO s x with
    | .glo k=>AFr (R3 k) M σ fun l=>K (.dat (.sl σ) l []) []
    | .ptr g []=>(match h g with
      | .box (.arr N e) l []=>(match Km e σ,Nat.beq N M with | some _,true=>K (.dat (.sl e) l []) [(g,.dead)] | _,_=>none)
      | _=>none)
    | _=>none
structure Ln where
  d:Option Nat
  op:GOp
  g:Option (Nat×Bool):=none
  rd:List Nat:=[]
  wr:List Nat:=[]
inductive Cd where
  | skip
  | reg (draw:Bool) (l:List Ln)
  | tidy (kill:List Nat) (mv:List (Nat×Nat)) (drop:List Nat) (trunc:Option Nat)
  | frz (ids:List Nat)
  | seq (a b:Cd)
  | cond (c:Opd) (a b:Cd)
  | block (id:Nat) (a:Cd)
  | loop (a:Cd)
  | exit (id:Nat)
  | ret
inductive Ex where
  | norm | exit (id:Nat) | ret
def Cx (ids:List Nat) (h:Nat→Obj):Nat→Obj:=fun g=>match ids.any (Nat.beq g) with | true=>h g | false=>.hid
def Ai (wr:List Nat):Eff→Bool
  | []=>true
  | (g,_) :: r=>wr.any (Nat.beq g) && Ai wr r
def C3 (cf:Calls) (draw:Bool) (l:Ln) (s:Xs) (h:Y7) (K:Xs→Y7→Option R):Option R :=
  match draw with
  | false=>gop cf (Xz s) (Xu h) l.op fun v e=>K (Fu s l.d v) (Pm h e)
  | true=>gop cf (Xz s) (Cx (l.rd ++ l.wr) (Xu h)) l.op fun v e=>match Ai l.wr e with
    | true=>K (Fu s l.d v) (Pm h e)
    | false=>none
def Yz (cf:Calls) (draw:Bool):List Ln→Xs→Y7→(Xs→Y7→Option R)→Option R
  | [],s,h,K=>K s h
  | l :: r,s,h,K=>match l.g with
    | none=>C3 cf draw l s h fun s h=>Yz cf draw r s h K
    | some (j,true)=>(match Xz s j with
      | .dat .bool b []=>bif b then C3 cf draw l (La s j (.dat .bool true [])) h fun s h=>Yz cf draw r s h K
          else Yz cf draw r (Fu (La s j (.dat .bool false [])) l.d .und) h K
      | .und=>Yz cf draw r (Fu s l.d .und) h K
      | _=>none)
    | some (j,false)=>(match Xz s j with
      | .dat .bool b []=>bif b then Yz cf draw r (Fu (La s j (.dat .bool true [])) l.d .und) h K
          else C3 cf draw l (La s j (.dat .bool false [])) h fun s h=>Yz cf draw r s h K
      | .und=>Yz cf draw r (Fu s l.d .und) h K
      | _=>none)
def Gy (p:Nat→Bool):List (Z8×Option Nat)→Bool
  | []=>true
  | (_,some g) :: r=>p g && Gy p r
  | (_,none) :: r=>Gy p r
mutual
def Uf (p:Nat→Bool):SV→Bool
  | .dat _ _ ov=>Gy p ov
  | .ptr g _=>p g
  | .ref _ _=>true
  | .refv v=>Uf p v
  | .selfc _ caps=>Om p caps
  | .glo _=>true
  | .elp g _ _=>p g
  | .clo _ caps=>Om p caps
  | .tup vs=>Om p vs
  | .slv vs=>Om p vs
  | .fmap _ vs=>Om p vs
  | .agv vs=>Om p vs
  | .nilfn=>true
  | .und=>true
  | .junk=>true
def Om (p:Nat→Bool):List SV→Bool
  | []=>true
  | v :: r=>Uf p v && Om p r
end
def ACp (p:Nat→Bool):Obj→Bool
  | .box _ _ ov=>Gy p ov
  | .boxv v=>Uf p v
  | .fbox _ _ ov=>Gy p ov
  | .fboxv v=>Uf p v
  | _=>true
def Mj (p:Nat→Bool):Xs→Bool
  | []=>true
  | (_,v) :: r=>Uf p v && Mj p r
def Mi (p:Nat→Bool):Y7→Bool
  | []=>true
  | o :: r=>ACp p o && Mi p r
def neI (n g:Nat):Bool:=match Nat.beq g n with | true=>false | false=>true
def ltI (n g:Nat):Bool:=Nat.blt g n
def B6 (a b g:Nat):Nat:=match Nat.beq g a with | true=>b | false=>g
def Kg (f:Nat→Nat):List (Z8×Option Nat)→List (Z8×Option Nat)
  | []=>[]
  | (q,some g) :: r=>(q,some (f g)) :: Kg f r
  | (q,none) :: r=>(q,none) :: Kg f r
mutual
def J2 (f:Nat→Nat):SV→SV
  | .dat τ x ov=>.dat τ x (Kg f ov)
  | .ptr g p=>.ptr (f g) p
  | .ref τ x=>.ref τ x
  | .refv v=>.refv (J2 f v)
  | .selfc c caps=>.selfc c (Vz f caps)
  | .glo k=>.glo k
  | .elp g i p=>.elp (f g) i p
  | .clo c caps=>.clo c (Vz f caps)
  | .tup vs=>.tup (Vz f vs)
  | .slv vs=>.slv (Vz f vs)
  | .fmap ks vs=>.fmap ks (Vz f vs)
  | .agv vs=>.agv (Vz f vs)
  | .nilfn=>.nilfn
  | .und=>.und
  | .junk=>.junk
def Vz (f:Nat→Nat):List SV→List SV
  | []=>[]
  | v :: r=>J2 f v :: Vz f r
end
def G9 (f:Nat→Nat):Obj→Obj
  | .box τ x ov=>.box τ x (Kg f ov)
  | .boxv v=>.boxv (J2 f v)
  | .fbox τ x ov=>.fbox τ x (Kg f ov)
  | .fboxv v=>.fboxv (J2 f v)
  | o=>o
def AEb (f:Nat→Nat):Xs→Xs
  | []=>[]
  | (i,v) :: r=>(i,J2 f v) :: AEb f r
def AMk (s:Xs) (h:Y7) (a b:Nat) (K:Xs→Y7→Option R):Option R :=
  match Xu h a with
  | .none=>K s h
  | _=>match Mj (neI b) s && Mi (neI b) h && !(Nat.beq a b) with
  | true=>K (AEb (B6 a b) s) (Rr (Rr (h.map (G9 (B6 a b))) b (Xu (h.map (G9 (B6 a b))) a)) a .none)
  | false=>none
def M6:List (Nat×Nat)→Xs→Y7→(Xs→Y7→Option R)→Option R
  | [],s,h,K=>K s h
  | (a,b) :: r,s,h,K=>AMk s h a b fun s h=>M6 r s h K
def O2:List Nat→Xs→Y7→(Xs→Y7→Option R)→Option R
  | [],s,h,K=>K s h
  | g :: r,s,h,K=>match Xu h g with
    | .none=>O2 r s h K
    | _=>match Mj (neI g) s && Mi (neI g) h with
      | true=>O2 r s (Rr h g .none) K
      | false=>none
def F2 (n:Option Nat) (s:Xs) (h:Y7) (K:Xs→Y7→Option R):Option R :=
  match n with
  | none=>K s h
  | some n=>match Mj (ltI n) s && Mi (ltI n) (h.take n) with
    | true=>K s (h.take n)
    | false=>none
abbrev Kt (R:Type):=Ex→Xs→Y7→Option R
def Mo (body:Kt R→Kt R→Xs→Y7→Option R):Nat→Kt R→Xs→Y7→Option R
  | 0,_,_,_=>none
  | m+1,K,s,h=>body (fun _ s h=>Mo body m K s h) K s h
def Qw (run:Cd→Kt R→Kt R→Xs→Y7→Option R) (b:Cd) (Kn K:Kt R):Kt R:=fun _ s h=>run b Kn K s h
def Q6 (id:Nat) (Kn K:Kt R):Kt R:=fun ex s h=>match ex with
  | .exit i=>(match Nat.beq i id with | true=>Kn .norm s h | false=>K (.exit i) s h)
  | ex=>K ex s h
def run (cf:Calls) (lp:Nat):Cd→Kt R→Kt R→Xs→Y7→Option R
  | .skip,Kn,_,s,h=>Kn .norm s h
  | .reg draw l,Kn,_,s,h=>Yz cf draw l s h fun s h=>Kn .norm s h
  | .tidy kill mv dr tr,Kn,_,s,h=>M6 mv (Ia kill s) h fun s h=>O2 dr s h fun s h=>F2 tr s h fun s h=>Kn .norm s h
  | .frz ids,Kn,_,s,h=>match Qa (Xu h) ids with
    | some es=>Kn .norm s (Pm h es)
    | none=>none
  | .seq a b,Kn,K,s,h=>run cf lp a (fun _ s h=>run cf lp b Kn K s h) K s h
  | .cond c a b,Kn,K,s,h=>match evO (Xz s) c with
    | .dat .bool t _=>bif t then run cf lp a Kn K s h else run cf lp b Kn K s h
    | _=>none
  | .block id a,Kn,K,s,h=>run cf lp a Kn (Q6 id Kn K) s h
  | .loop a,_,K,s,h=>Mo (fun Kn K s h=>run cf lp a Kn K s h) lp K s h
  | .exit id,_,K,s,h=>K (.exit id) s h
  | .ret,_,K,s,h=>K .ret s h
inductive RV where
  | tmp (t:Nat)
  | cell (t:Nat) (l:LT)
structure Fn where
  np:Nat
  res:List RV
  body:Cd
def Rv:Nat→List SV→Xs
  | _,[]=>[]
  | i,v :: r=>(i,v) :: Rv (i+1) r
def V3:Z8→Ty→Bool
  | [],.sl _=>true
  | i :: p,.st fs=>(match fs[i]? with | some t=>V3 p t | none=>false)
  | _,_=>false
def Nk (τ:Ty):List (Z8×Option Nat)→Bool
  | []=>true
  | (q,_) :: r=>V3 q τ && !(r.any fun e=>Z4 e.1 q) && Nk τ r
def Hk (s:Nat→SV) (h:Nat→Obj):RV→Option (SV×List (Z8×Nat)×List Nat)
  | .tmp t=>resFin h (s t)
  | .cell t l=>Ie l h (s t) fun v=>resFin h v
where
  resFin (h:Nat→Obj) (v:SV):Option (SV×List (Z8×Nat)×List Nat):=match v with
    | .dat τ x ov=>match resolve h τ x ov with
      | some y=>(match Nk τ ov with | true=>some (.dat τ y [],ovOwn h ov,[]) | false=>some (.dat τ y [],[],Pa ov))
      | none=>none
    | v=>match Y0 h 60 v with | some (u,ids)=>some (u,[],ids) | none=>none
  ovOwn (h:Nat→Obj):List (Z8×Option Nat)→List (Z8×Nat)
    | []=>[]
    | (q,some g) :: r=>(match h g with | .arr _ _=>(q,g) :: ovOwn h r | _=>ovOwn h r)
    | (_,none) :: r=>ovOwn h r
def resAll (s:Nat→SV) (h:Nat→Obj):Nat→List RV→Option (List SV×List ((Nat×Z8)×Nat)×List Nat)
  | _,[]=>some ([],[],[])
  | i,r :: rs=>match Hk s h r with
    | some (v,o,l)=>match resAll s h (i+1) rs with
      | some (vs,os,ls)=>some (v :: vs,o.map (fun q=>((i,q.1),q.2)) ++ os,l ++ ls)
      | none=>none
    | none=>none
def R8:List ((Nat×Z8)×Nat)→Bool
  | []=>true
  | (_,g) :: r => !(r.any fun q=>Nat.beq q.2 g) && R8 r
def Wu:List ((Nat×Z8)×Nat)→Bool
  | []=>true
  | (k,_) :: r => !(r.any fun q=>Nat.beq q.1.1 k.1 && Z4 q.1.2 k.2) && Wu r
def Px (o:List ((Nat×Z8)×Nat)) (l:List Nat):Z1:=match R8 o && Wu o && o.all (fun q => !(l.any (Nat.beq q.2))) with
  | true=>o.map (·.1)
  | false=>[]
def Xc (fn:Fn) (res:List Sh):Kt (Xd res×Z1):=fun ex s h =>
  match ex with
  | .exit _=>none
  | _=>match resAll (Xz s) (Xu h) 0 fn.res with
  | some (vs,o,l)=>match Pc res vs with
    | some x=>some (x,Px o l)
    | none=>none
  | none=>none
def Kq (prog:FuncId→Option Fn) (sp:Calls):Nat→Calls
  | 0,_,_,_=>none
  | n+1,f,as,res=>match prog f with
    | some fn=>match Nat.beq as.length fn.np with
      | true=>run (Kq prog sp n) n fn.body (Xc fn res) (Xc fn res) (Rv 0 as) []
      | false=>none
    | none=>sp f as res
end
end Go.Proofs.YtpemapoblhleoaaGreatDoor.Ghost
namespace Go.Proofs.YtpemapoblhleoaaGreatDoor.Ghost
open Go
mutual
def Ja:Ty→Z8→Nat
  | .st fs,i :: p=>Gq fs i p
  | .arr _ e,i :: p=>i * Zg e+Ja e p
  | _,_=>0
def Gq:List Ty→Nat→Z8→Nat
  | [],_,_=>0
  | t :: _,0,p=>Ja t p
  | t :: r,n+1,p=>Zg t+Gq r n p
end
mutual
def okP:Ty→Z8→Prop
  | _,[]=>True
  | .st fs,i :: p=>okF fs i p
  | .arr n e,i :: p=>i<n∧okP e p
  | _,_=>False
def okF:List Ty→Nat→Z8→Prop
  | [],_,_=>False
  | t :: _,0,p=>okP t p
  | _ :: r,n+1,p=>okF r n p
end
structure Ky where
  b:Nat
  len:Nat
  cap:Nat
  es:Nat
  mp:Bool
  off:Z8→Nat
  ok:Z8→Prop
abbrev Xf:=Nat→Option Ky
abbrev Ov:=List (Z8×Option Nat)
def Wz (ρ:Xf) (g:Nat) (v:Value):Prop :=
  ∃ s a,ρ g=some s∧s.mp=false∧v=.slice a s.len s.cap∧(0<s.cap→a=some ⟨s.b,0,none⟩)
mutual
def Zj (A:Nat→Prop) (ρ:Xf) (w:World):(τ:Ty)→den τ→Ov→List Value→Prop
  | .bool,x,_,cs=>cs=[.bool x]
  | .int k,x,_,cs=>cs=[.int k x]
  | .str,x,_,cs=>cs=[.string x]
  | .sl e,l,ov,cs=>∃ a n c,cs=[.slice a n c]∧(∀ g,([],some g)∈ov→Wz ρ g (.slice a n c)) ∧
      ((∀ o,([],o) ∉ ov)→n=List.length l∧(0<n→∃ b o ds,a=some ⟨b,o,none⟩∧A b∧w.rangeAt b o ds∧ds.length=n * Zg e ∧
        ∀ i,i<n→Zj A ρ w e (List.getD l i (dft e)) [] ((ds.drop (i * Zg e)).take (Zg e))))
  | .arr n e,l,ov,cs=>List.length l=n∧cs.length=n * Zg e ∧
      ∀ i,i<n→Zj A ρ w e (List.getD l i (dft e)) (Jq [i] ov) ((cs.drop (i * Zg e)).take (Zg e))
  | .st fs,x,ov,cs=>Xq A ρ w fs 0 x ov cs
def Xq (A:Nat→Prop) (ρ:Xf) (w:World):(fs:List Ty)→Nat→K1 fs→Ov→List Value→Prop
  | [],_,_,_,cs=>cs=[]
  | t :: r,j,x,ov,cs=>Zj A ρ w t x.1 (Jq [j] ov) (cs.take (Zg t))∧Xq A ρ w r (j+1) x.2 ov (cs.drop (Zg t))
end
mutual
theorem Zj.length {A:Nat→Prop} {ρ:Xf} {w:World}:(τ:Ty)→{x:den τ}→{ov:Ov}→{cs:List Value}→Zj A ρ w τ x ov cs→cs.length=Zg τ
  | .bool,_,_,_,h=>by simp only [Zj] at h; subst h; rfl
  | .int _,_,_,_,h=>by simp only [Zj] at h; subst h; rfl
  | .str,_,_,_,h=>by simp only [Zj] at h; subst h; rfl
  | .sl _,_,_,_,h=>by simp only [Zj] at h; obtain ⟨_,_,_,rfl,_⟩:=h; rfl
  | .arr n e,_,_,_,h=>by simp only [Zj] at h; simpa only [Zg] using h.2.1
  | .st fs,_,_,_,h=>by simp only [Zj] at h; simpa only [Zg] using Xq.length fs h
theorem Xq.length {A:Nat→Prop} {ρ:Xf} {w:World}:(fs:List Ty)→{j:Nat}→{x:K1 fs}→{ov:Ov}→{cs:List Value}→Xq A ρ w fs j x ov cs→cs.length=Gr fs
  | [],_,_,_,_,h=>by simp only [Xq] at h; subst h; rfl
  | t :: r,_,_,_,_,h=>by
    simp only [Xq] at h
    have h1:=Zj.length t h.1
    have h2:=Xq.length r h.2
    simp only [List.length_take,List.length_drop] at h1 h2
    simp only [Gr]
    omega
end
mutual
theorem Zj.mono {A A':Nat→Prop} {ρ ρ':Xf} {w w':World} (hA:∀ b,A b→A' b) (hρ:∀ g s,ρ g=some s→ρ' g=some s)
    (hw:∀ b,A b→w'.heap[b]?=w.heap[b]?):(τ:Ty)→{x:den τ}→{ov:Ov}→{cs:List Value}→Zj A ρ w τ x ov cs→Zj A' ρ' w' τ x ov cs
  | .bool,_,_,_,h=>by simpa only [Zj] using h
  | .int _,_,_,_,h=>by simpa only [Zj] using h
  | .str,_,_,_,h=>by simpa only [Zj] using h
  | .sl e,_,_,_,h=>by
    simp only [Zj] at h ⊢
    obtain ⟨a,n,c,h1,h2,h3⟩:=h
    refine ⟨a,n,c,h1,fun g hg => ?_,fun hn=>⟨(h3 hn).1,fun hp => ?_⟩⟩
    · obtain ⟨s,ad,k1,k2⟩:=h2 g hg
      exact ⟨s,ad,hρ _ _ k1,k2⟩
    · obtain ⟨b,o,ds,k1,k2,k3,k4,k5⟩:=(h3 hn).2 hp
      refine ⟨b,o,ds,k1,hA b k2,fun j v hv => ?_,k4,fun i hi=>Zj.mono hA hρ hw e (k5 i hi)⟩
      have:=k3 j v hv
      unfold World.cell? at this ⊢
      simp only [hw b k2]
      exact this
  | .arr n e,_,_,_,h=>by
    simp only [Zj] at h ⊢
    exact ⟨h.1,h.2.1,fun i hi=>Zj.mono hA hρ hw e (h.2.2 i hi)⟩
  | .st fs,_,_,_,h=>by simp only [Zj] at h ⊢; exact Xq.mono hA hρ hw fs h
theorem Xq.mono {A A':Nat→Prop} {ρ ρ':Xf} {w w':World} (hA:∀ b,A b→A' b) (hρ:∀ g s,ρ g=some s→ρ' g=some s)
    (hw:∀ b,A b→w'.heap[b]?=w.heap[b]?):(fs:List Ty)→{j:Nat}→{x:K1 fs}→{ov:Ov}→{cs:List Value}→Xq A ρ w fs j x ov cs→Xq A' ρ' w' fs j x ov cs
  | [],_,_,_,_,h=>by simpa only [Xq] using h
  | t :: r,_,_,_,_,h=>by
    simp only [Xq] at h ⊢
    exact ⟨Zj.mono hA hρ hw t h.1,Xq.mono hA hρ hw r h.2⟩
end
theorem Qb {p q:Z8} {o:Option Nat}:{ov:Ov}→((q,o)∈Jq p ov↔(p ++ q,o)∈ov):=by
  have Um:∀ (p q r:Z8),Hu p q=some r↔q=p ++ r:=by
    intro p
    induction p with
    | nil=>intro q r; simp [Hu,eq_comm]
    | cons i p ih =>
      intro q r
      cases q with
      | nil=>simp [Hu]
      | cons j q =>
        simp only [Hu]
        cases hb:Nat.beq i j with
        | true =>
          have:=Nat.eq_of_beq_eq_true hb
          subst this
          simp [ih]
        | false =>
          have:i≠j:=fun e=>by subst e; simp [Nat.beq_refl] at hb
          simp [Ne.symm this]
  intro ov
  induction ov with
  | nil=>simp [Jq]
  | cons e r ih =>
    obtain ⟨q',o'⟩:=e
    simp only [Jq]
    cases hs:Hu p q' with
    | none =>
      simp only [List.mem_cons,Prod.mk.injEq]
      rw [ih]
      constructor
      · exact .inr
      · rintro (⟨h,_⟩ | h)
        · rw [(Um p q' q).2 h.symm] at hs; cases hs
        · exact h
    | some q'' =>
      have:=(Um p q' q'').1 hs
      subst this
      simp only [List.mem_cons,Prod.mk.injEq,ih,List.append_cancel_left_eq]
theorem En {ov ov':Ov} (h:∀ e,e∈ov↔e∈ov') (p:Z8):∀ e,e∈Jq p ov↔e∈Jq p ov':=fun ⟨q,o⟩=>by
  rw [Qb,Qb]; exact h _
mutual
theorem Zj.ov {A:Nat→Prop} {ρ:Xf} {w:World}:(τ:Ty)→{x:den τ}→{ov ov':Ov}→{cs:List Value}→(∀ e,e∈ov↔e∈ov')→Zj A ρ w τ x ov cs→Zj A ρ w τ x ov' cs
  | .bool,_,_,_,_,_,h=>by simpa only [Zj] using h
  | .int _,_,_,_,_,_,h=>by simpa only [Zj] using h
  | .str,_,_,_,_,_,h=>by simpa only [Zj] using h
  | .sl e,_,_,_,_,he,h=>by
    simp only [Zj] at h ⊢
    obtain ⟨a,n,c,h1,h2,h3⟩:=h
    exact ⟨a,n,c,h1,fun g hg=>h2 g ((he _).2 hg),fun hn=>h3 (fun o ho=>hn o ((he _).1 ho))⟩
  | .arr n e,_,_,_,_,he,h=>by
    simp only [Zj] at h ⊢
    exact ⟨h.1,h.2.1,fun i hi=>Zj.ov e (En he _) (h.2.2 i hi)⟩
  | .st fs,_,_,_,_,he,h=>by simp only [Zj] at h ⊢; exact Xq.ov fs he h
theorem Xq.ov {A:Nat→Prop} {ρ:Xf} {w:World}:(fs:List Ty)→{j:Nat}→{x:K1 fs}→{ov ov':Ov}→{cs:List Value}→(∀ e,e∈ov↔e∈ov')→Xq A ρ w fs j x ov cs→Xq A ρ w fs j x ov' cs
  | [],_,_,_,_,_,_,h=>by simpa only [Xq] using h
  | t :: r,_,_,_,_,_,he,h=>by
    simp only [Xq] at h ⊢
    exact ⟨Zj.ov t (En he _) h.1,Xq.ov r he h.2⟩
end
theorem Eo (p q:Z8) (ov:Ov):∀ e,e∈Jq q (Jq p ov)↔e∈Jq (p ++ q) ov:=fun ⟨r,o⟩=>by
  rw [Qb,Qb,Qb,List.append_assoc]
def cut (cs:List Value) (o n:Nat):List Value:=(cs.drop o).take n
theorem Ps (cs:List Value) (o n o' n':Nat) (h:o'+n'≤n):cut (cut cs o n) o' n'=cut cs (o+o') n':=by
  unfold cut
  rw [List.drop_take,List.drop_drop,List.take_take,Nat.min_eq_left (by omega)]
theorem O1 (cs:List Value) (n:Nat):cut cs 0 n=cs.take n:=rfl
theorem AGx (cs:List Value) (n:Nat) (h:cs.length=n):cut cs 0 n=cs:=by subst h; simp [cut]
mutual
theorem P4:(τ:Ty)→(p:Z8)→(x:den τ)→(d:Dyn)→okP τ p→getP p τ x=some d→Ja τ p+Zg d.τ≤Zg τ
  | τ,[],x,d,_,h=>by
    have:d=⟨τ,x⟩:=by cases τ <;> simpa [getP,eq_comm] using h
    subst this
    cases τ <;> simp [Ja]
  | .st fs,i :: p,x,d,hk,h=>by
    simp only [Ja,Zg]
    simp only [okP] at hk
    simp only [getP] at h
    exact AHg fs i p x d hk h
  | .arr n e,i :: p,x,d,hk,h=>by
    simp only [Ja,Zg]
    simp only [okP] at hk
    simp only [getP] at h
    have h1:=P4 e p _ d hk.2 h
    have:(i+1) * Zg e≤n * Zg e:=Nat.mul_le_mul_right _ hk.1
    rw [Nat.add_mul,Nat.one_mul] at this
    omega
  | .bool,_ :: _,_,_,hk,_=>by simp [okP] at hk
  | .int _,_ :: _,_,_,hk,_=>by simp [okP] at hk
  | .str,_ :: _,_,_,hk,_=>by simp [okP] at hk
  | .sl _,_ :: _,_,_,hk,_=>by simp [okP] at hk
theorem AHg:(fs:List Ty)→(i:Nat)→(p:Z8)→(x:K1 fs)→(d:Dyn)→okF fs i p →
    (match Gm fs i x with | some d=>getP p d.τ d.x | none=>none)=some d→Gq fs i p+Zg d.τ≤Gr fs
  | [],_,_,_,_,hk,_=>by simp [okF] at hk
  | t :: r,0,p,x,d,hk,h=>by
    simp only [okF] at hk
    simp only [Gm] at h
    have:=P4 t p x.1 d hk h
    simp only [Gq,Gr]
    omega
  | t :: r,n+1,p,x,d,hk,h=>by
    simp only [okF] at hk
    simp only [Gm] at h
    have:=AHg r n p x.2 d hk h
    simp only [Gq,Gr]
    omega
end
mutual
theorem Zj.getP {A:Nat→Prop} {ρ:Xf} {w:World}:(τ:Ty)→(p:Z8)→{x:den τ}→{ov:Ov}→{cs:List Value}→{d:Dyn}→Zj A ρ w τ x ov cs→okP τ p →
    getP p τ x=some d→Zj A ρ w d.τ d.x (Jq p ov) (cut cs (Ja τ p) (Zg d.τ))
  | τ,[],x,ov,cs,d,h,_,hg=>by
    have:d=⟨τ,x⟩:=by cases τ <;> simpa [Ghost.getP,eq_comm] using hg
    subst this
    have h0:Ja τ []=0:=by cases τ <;> rfl
    rw [h0,AGx _ _ (Zj.length τ h)]
    exact Zj.ov τ (fun ⟨q,o⟩=>by rw [Qb]; rfl) h
  | .st fs,i :: p,x,ov,cs,d,h,hk,hg=>by
    simp only [Zj] at h
    simp only [okP] at hk
    simp only [Ghost.getP] at hg
    simp only [Ja]
    have:=Xq.getP fs 0 i p h hk hg
    simpa only [Nat.zero_add] using this
  | .arr n e,i :: p,x,ov,cs,d,h,hk,hg=>by
    simp only [Zj] at h
    simp only [okP] at hk
    simp only [Ghost.getP] at hg
    simp only [Ja]
    have h1:=Zj.getP e p (h.2.2 i hk.1) hk.2 hg
    have h2:=P4 e p _ d hk.2 hg
    rw [show (List.drop (i * Zg e) cs).take (Zg e)=cut cs (i * Zg e) (Zg e) from rfl,Ps _ _ _ _ _ h2] at h1
    exact Zj.ov d.τ (Eo [i] p ov) h1
  | .bool,_ :: _,_,_,_,_,_,hk,_=>by simp [okP] at hk
  | .int _,_ :: _,_,_,_,_,_,hk,_=>by simp [okP] at hk
  | .str,_ :: _,_,_,_,_,_,hk,_=>by simp [okP] at hk
  | .sl _,_ :: _,_,_,_,_,_,hk,_=>by simp [okP] at hk
theorem Xq.getP {A:Nat→Prop} {ρ:Xf} {w:World}:(fs:List Ty)→(j i:Nat)→(p:Z8)→{x:K1 fs}→{ov:Ov}→{cs:List Value}→{d:Dyn}→Xq A ρ w fs j x ov cs→okF fs i p →
    (match Gm fs i x with | some d=>Ghost.getP p d.τ d.x | none=>none)=some d→Zj A ρ w d.τ d.x (Jq ((j+i) :: p) ov) (cut cs (Gq fs i p) (Zg d.τ))
  | [],_,_,_,_,_,_,_,_,hk,_=>by simp [okF] at hk
  | t :: r,j,0,p,x,ov,cs,d,h,hk,hg=>by
    simp only [Xq] at h
    simp only [okF] at hk
    simp only [Gm] at hg
    simp only [Gq]
    have h1:=Zj.getP t p h.1 hk hg
    have h2:=P4 t p _ d hk hg
    rw [← O1,Ps _ _ _ _ _ h2,Nat.zero_add] at h1
    exact Zj.ov d.τ (Eo [j] p ov) h1
  | t :: r,j,n+1,p,x,ov,cs,d,h,hk,hg=>by
    simp only [Xq] at h
    simp only [okF] at hk
    simp only [Gm] at hg
    simp only [Gq]
    have h1:=Xq.getP r (j+1) n p h.2 hk hg
    have:cut (List.drop (Zg t) cs) (Gq r n p) (Zg d.τ)=cut cs (Zg t+Gq r n p) (Zg d.τ):=by
      unfold cut; rw [List.drop_drop]
    rw [this] at h1
    rw [show j+(n+1)=j+1+n by omega]
    exact h1
end
end Go.Proofs.YtpemapoblhleoaaGreatDoor.Ghost
namespace Go.Proofs.YtpemapoblhleoaaGreatDoor.Ghost
open Go
def Vo (cs:List Value) (o:Nat) (ds:List Value):List Value:=cs.take o ++ ds ++ cs.drop (o+ds.length)
theorem J1 {cs:List Value} {o:Nat} {ds:List Value} (h:o+ds.length≤cs.length):(Vo cs o ds).length=cs.length:=by
  simp only [Vo,List.length_append,List.length_take,List.length_drop]; omega
theorem Qv {cs:List Value} {o:Nat} {ds:List Value} (h:o+ds.length≤cs.length) (k:Nat) :
    (Vo cs o ds)[k]?=if k<o then cs[k]? else if k<o+ds.length then ds[k - o]? else cs[k]?:=by
  simp only [Vo,List.append_assoc]
  by_cases h1:k<o
  · rw [if_pos h1,List.getElem?_append_left (by simp; omega),List.getElem?_take_of_lt h1]
  · rw [if_neg h1,List.getElem?_append_right (by simp; omega)]
    have:(List.take o cs).length=o:=by simp; omega
    rw [this]
    by_cases h2:k<o+ds.length
    · rw [if_pos h2,List.getElem?_append_left (by omega)]
    · rw [if_neg h2,List.getElem?_append_right (by omega),List.getElem?_drop]
      congr 1; omega
theorem Qu {cs:List Value} {o n:Nat} (k:Nat):(cut cs o n)[k]?=if k<n then cs[o+k]? else none:=by
  unfold cut
  by_cases h:k<n
  · rw [if_pos h,List.getElem?_take_of_lt h,List.getElem?_drop]
  · rw [if_neg h,List.getElem?_eq_none]; simp; omega
theorem P1 {cs:List Value} {o n:Nat} (h:o+n≤cs.length):(cut cs o n).length=n:=by
  unfold cut; simp only [List.length_take,List.length_drop]; omega
theorem Up {cs:List Value} {o n o':Nat} {ds:List Value} (h:o+n≤cs.length) (h':o'+ds.length≤n) :
    cut (Vo cs (o+o') ds) o n=Vo (cut cs o n) o' ds:=by
  refine List.ext_getElem? fun k => ?_
  have hl:(cut cs o n).length=n:=P1 h
  rw [Qu,Qv (by omega),Qv (by omega),Qu]
  by_cases h1:k<n
  · simp only [h1,if_true]
    by_cases h2:k<o'
    · rw [if_pos (by omega),if_pos h2]
    · rw [if_neg (by omega),if_neg h2]
      by_cases h3:k<o'+ds.length
      · rw [if_pos (by omega),if_pos h3]; congr 1; omega
      · rw [if_neg (by omega),if_neg h3]
  · simp only [h1,if_false]
    rw [if_neg (by omega),if_neg (by omega)]
theorem Hq {cs:List Value} {o n o':Nat} {ds:List Value} (h:o'+ds.length≤cs.length) (h':o+n≤o'∨o'+ds.length≤o) :
    cut (Vo cs o' ds) o n=cut cs o n:=by
  refine List.ext_getElem? fun k => ?_
  rw [Qu,Qu,Qv h]
  by_cases h1:k<n
  · simp only [h1,if_true]
    rcases h' with h' | h'
    · rw [if_pos (by omega)]
    · rw [if_neg (by omega),if_neg (by omega)]
  · simp only [h1,if_false]
theorem T2 (cs:List Value) (o:Nat):cs.drop o=cut cs o (cs.length - o):=by
  unfold cut; rw [List.take_of_length_le]; simp
def Uv (p:Z8) (ov ov' ov'':Ov):Prop:=∀ e,e∈ov''↔(e∈ov∧Hu p e.1=none)∨(∃ q,Hu p e.1=some q∧(q,e.2)∈ov')
theorem Uv.nil {ov ov' ov'':Ov} (h:Uv [] ov ov' ov''):∀ e,e∈ov'↔e∈ov'':=fun ⟨q,o⟩=>by
  rw [h (q,o)]; simp [Hu]
theorem Uv.same {i:Nat} {p:Z8} {ov ov' ov'':Ov} (h:Uv (i :: p) ov ov' ov''):Uv p (Jq [i] ov) ov' (Jq [i] ov''):=fun ⟨q,o⟩=>by
  rw [Qb,Qb,h ([i] ++ q,o)]; simp [Hu]
theorem Uv.other {i j:Nat} {p:Z8} {ov ov' ov'':Ov} (h:Uv (i :: p) ov ov' ov'') (hij:j≠i):∀ e,e∈Jq [j] ov↔e∈Jq [j] ov'':=fun ⟨q,o⟩=>by
  have:Nat.beq i j=false:=by
    cases hb:Nat.beq i j with
    | false=>rfl
    | true=>exact absurd (Nat.eq_of_beq_eq_true hb).symm hij
  rw [Qb,Qb,h ([j] ++ q,o)]; simp [Hu,this]
theorem AAf {e x:Z8×Option Nat}:{ov:Ov}→(x∈AEf e ov↔x=e∨x∈ov)
  | []=>by simp [AEf]
  | y :: r=>by
    simp only [AEf]
    split
    · simp
    · simp only [List.mem_cons,AAf (ov:=r)]
      constructor
      · rintro (h | h | h) <;> simp [h]
      · rintro (h | h | h) <;> simp [h]
theorem Nh {x:Z8×Option Nat}:{a b:Ov}→(x∈Ma a b↔x∈a∨x∈b)
  | [],_=>by simp [Ma]
  | e :: r,b=>by
    simp only [Ma,Nh (a:=r),AAf,List.mem_cons]
    constructor
    · rintro (h | h | h) <;> simp [h]
    · rintro ((h | h) | h) <;> simp [h]
theorem N7 {p:Z8} {e:Z8×Option Nat}:{ov:Ov}→(e∈Em p ov↔∃ q,e.1=p ++ q∧(q,e.2)∈ov)
  | []=>by simp [Em]
  | (q',o') :: r=>by
    obtain ⟨q,o⟩:=e
    simp only [Em,List.mem_cons,N7 (ov:=r),Prod.mk.injEq]
    constructor
    · rintro (⟨rfl,rfl⟩ | ⟨q'',h1,h2⟩)
      · exact ⟨q',rfl,.inl ⟨rfl,rfl⟩⟩
      · exact ⟨q'',h1,.inr h2⟩
    · rintro ⟨q'',h1,⟨rfl,rfl⟩ | h2⟩
      · exact .inl ⟨h1,rfl⟩
      · exact .inr ⟨q'',h1,h2⟩
theorem Tl {p:Z8} {e:Z8×Option Nat}:{ov:Ov}→(e∈P5 p ov↔e∈ov∧Hu p e.1=none)
  | []=>by simp [P5]
  | (q',o') :: r=>by
    obtain ⟨q,o⟩:=e
    simp only [P5]
    cases hs:Hu p q' with
    | none =>
      simp only [List.mem_cons,Tl (ov:=r),Prod.mk.injEq]
      constructor
      · rintro (⟨rfl,rfl⟩ | h)
        · exact ⟨.inl ⟨rfl,rfl⟩,hs⟩
        · exact ⟨.inr h.1,h.2⟩
      · rintro ⟨⟨rfl,rfl⟩ | h,h'⟩
        · exact .inl ⟨rfl,rfl⟩
        · exact .inr ⟨h,h'⟩
    | some q'' =>
      simp only [List.mem_cons,Tl (ov:=r),Prod.mk.injEq]
      constructor
      · rintro ⟨h,h'⟩; exact ⟨.inr h,h'⟩
      · rintro ⟨⟨rfl,rfl⟩ | h,h'⟩
        · rw [hs] at h'; cases h'
        · exact ⟨h,h'⟩
theorem Um {p q r:Z8}:Hu p q=some r↔q=p ++ r:=by
  induction p generalizing q r with
  | nil=>simp [Hu]
  | cons i p ih =>
    cases q with
    | nil=>simp [Hu]
    | cons j q =>
      simp only [Hu]
      cases hb:Nat.beq i j with
      | true =>
        have:=Nat.eq_of_beq_eq_true hb
        subst this
        simp [ih]
      | false =>
        have:i≠j:=fun e=>by subst e; simp [Nat.beq_refl] at hb
        simp [Ne.symm this]
theorem Uv.merge (p:Z8) (ov ov':Ov):Uv p ov ov' (Ma (Em p ov') (P5 p ov)):=fun e=>by
  rw [Nh,N7,Tl]
  constructor
  · rintro (⟨q,h1,h2⟩ | h)
    · exact .inr ⟨q,Um.2 h1,h2⟩
    · exact .inl h
  · rintro (h | ⟨q,h1,h2⟩)
    · exact .inr h
    · exact .inl ⟨q,Um.1 h1,h2⟩
theorem Yi {a b:Ty} {x:den a} {y:den b} (h:Jj a b x=some y):(⟨a,x⟩:Dyn)=⟨b,y⟩:=by
  unfold Jj at h
  split at h
  · rename_i e _
    subst e
    simp at h
    subst h; rfl
  · cases h
mutual
theorem Ul:(τ:Ty)→(p:Z8)→(x x':den τ)→(d:Dyn)→okP τ p→setP τ p x d=some x'→Ja τ p+Zg d.τ≤Zg τ
  | τ,[],x,x',d,_,h=>by
    have hc:Jj d.τ τ d.x=some x':=by cases τ <;> simpa only [setP] using h
    have:=Yi hc
    obtain ⟨σ,y⟩:=d
    cases this
    show Ja σ []+Zg σ≤Zg σ
    cases σ <;> simp [Ja]
  | .st fs,i :: p,x,x',d,hk,h=>by
    simp only [Ja,Zg]
    simp only [okP] at hk
    simp only [setP] at h
    exact Fy fs i p x x' d hk h
  | .arr n e,i :: p,x,x',d,hk,h=>by
    simp only [Ja,Zg]
    simp only [okP] at hk
    simp only [setP] at h
    cases hs:setP e p (List.getD x i (dft e)) d with
    | none=>rw [hs] at h; cases h
    | some y =>
      have h1:=Ul e p _ _ d hk.2 hs
      have:(i+1) * Zg e≤n * Zg e:=Nat.mul_le_mul_right _ hk.1
      rw [Nat.add_mul,Nat.one_mul] at this
      omega
  | .bool,_ :: _,_,_,_,hk,_=>by simp [okP] at hk
  | .int _,_ :: _,_,_,_,hk,_=>by simp [okP] at hk
  | .str,_ :: _,_,_,_,hk,_=>by simp [okP] at hk
  | .sl _,_ :: _,_,_,_,hk,_=>by simp [okP] at hk
theorem Fy:(fs:List Ty)→(i:Nat)→(p:Z8)→(x x':K1 fs)→(d:Dyn)→okF fs i p →
    Kk fs i p x d=some x'→Gq fs i p+Zg d.τ≤Gr fs
  | [],_,_,_,_,_,hk,_=>by simp [okF] at hk
  | t :: r,0,p,x,x',d,hk,h=>by
    simp only [okF] at hk
    simp only [Kk] at h
    cases hs:setP t p x.1 d with
    | none=>rw [hs] at h; cases h
    | some y =>
      have:=Ul t p x.1 y d hk hs
      simp only [Gq,Gr]
      omega
  | t :: r,n+1,p,x,x',d,hk,h=>by
    simp only [okF] at hk
    simp only [Kk] at h
    cases hs:Kk r n p x.2 d with
    | none=>rw [hs] at h; cases h
    | some y =>
      have:=Fy r n p x.2 y d hk hs
      simp only [Gq,Gr]
      omega
end
mutual
theorem Zj.setP {A:Nat→Prop} {ρ:Xf} {w:World}:(τ:Ty)→(p:Z8)→{x x':den τ}→{ov ov' ov'':Ov}→{cs ds:List Value}→{d:Dyn} →
    Zj A ρ w τ x ov cs→okP τ p→setP τ p x d=some x'→Zj A ρ w d.τ d.x ov' ds→Uv p ov ov' ov''→Zj A ρ w τ x' ov'' (Vo cs (Ja τ p) ds)
  | τ,[],x,x',ov,ov',ov'',cs,ds,d,h,_,hs,hd,hv=>by
    have hc:Jj d.τ τ d.x=some x':=by cases τ <;> simpa only [Ghost.setP] using hs
    have:=Yi hc
    obtain ⟨σ,y⟩:=d
    cases this
    have h0:Ja σ []=0:=by cases σ <;> rfl
    have h1:=Zj.length σ h
    have h2:ds.length=Zg σ:=Zj.length σ hd
    have:Vo cs (Ja σ []) ds=ds:=by
      unfold Vo
      rw [h0,Nat.zero_add,List.drop_eq_nil_of_le (by omega)]; simp
    rw [this]
    exact Zj.ov σ hv.nil hd
  | .st fs,i :: p,x,x',ov,ov',ov'',cs,ds,d,h,hk,hs,hd,hv=>by
    simp only [Zj] at h ⊢
    simp only [okP] at hk
    simp only [Ghost.setP] at hs
    simp only [Ja]
    exact Xq.setP fs 0 i p h hk hs hd (by rw [Nat.zero_add]; exact hv)
  | .arr n e,i :: p,x,x',ov,ov',ov'',cs,ds,d,h,hk,hs,hd,hv=>by
    simp only [Zj] at h ⊢
    simp only [okP] at hk
    simp only [Ghost.setP] at hs
    simp only [Ja]
    cases hy:Ghost.setP e p (List.getD x i (dft e)) d with
    | none=>rw [hy] at hs; cases hs
    | some y =>
      rw [hy] at hs
      simp only [Option.some.injEq] at hs
      subst hs
      have h2:=Zj.length d.τ hd
      have h3:=Ul e p _ _ d hk.2 hy
      have h4:(i+1) * Zg e≤n * Zg e:=Nat.mul_le_mul_right _ hk.1
      rw [Nat.add_mul,Nat.one_mul] at h4
      refine ⟨by simpa using h.1,by rw [J1 (by omega)]; exact h.2.1,fun k hkn => ?_⟩
      have h4':(k+1) * Zg e≤n * Zg e:=Nat.mul_le_mul_right _ hkn
      rw [Nat.add_mul,Nat.one_mul] at h4'
      have hget:=h.2.2 k hkn
      change Zj A ρ w e _ _ (cut cs (k * Zg e) (Zg e)) at hget
      change Zj A ρ w e _ _ (cut _ (k * Zg e) (Zg e))
      by_cases hki:k=i
      · subst hki
        have h5:=Zj.setP e p hget hk.2 hy hd hv.same
        rw [Up (by omega) (by omega)]
        have:List.getD (List.set x k y) k (dft e)=y:=by
          have hl:k<List.length x:=by omega
          rw [List.getD_eq_getElem?_getD,List.getElem?_set_self hl]; rfl
        rw [this]; exact h5
      · have:List.getD (List.set x i y) k (dft e)=List.getD x k (dft e):=by
          rw [List.getD_eq_getElem?_getD,List.getElem?_set_ne (Ne.symm hki),← List.getD_eq_getElem?_getD]
        rw [this,Hq (by omega) ?_]
        · exact Zj.ov e (hv.other hki) hget
        · rcases Nat.lt_or_gt_of_ne hki with hlt | hgt
          · left
            have:(k+1) * Zg e≤i * Zg e:=Nat.mul_le_mul_right _ hlt
            rw [Nat.add_mul,Nat.one_mul] at this
            omega
          · right
            have:(i+1) * Zg e≤k * Zg e:=Nat.mul_le_mul_right _ hgt
            rw [Nat.add_mul,Nat.one_mul] at this
            omega
  | .bool,_ :: _,_,_,_,_,_,_,_,_,_,hk,_,_,_=>by simp [okP] at hk
  | .int _,_ :: _,_,_,_,_,_,_,_,_,_,hk,_,_,_=>by simp [okP] at hk
  | .str,_ :: _,_,_,_,_,_,_,_,_,_,hk,_,_,_=>by simp [okP] at hk
  | .sl _,_ :: _,_,_,_,_,_,_,_,_,_,hk,_,_,_=>by simp [okP] at hk
theorem Xq.setP {A:Nat→Prop} {ρ:Xf} {w:World}:(fs:List Ty)→(j i:Nat)→(p:Z8)→{x x':K1 fs}→{ov ov' ov'':Ov}→{cs ds:List Value}→{d:Dyn} →
    Xq A ρ w fs j x ov cs→okF fs i p→Kk fs i p x d=some x'→Zj A ρ w d.τ d.x ov' ds→Uv ((j+i) :: p) ov ov' ov''→Xq A ρ w fs j x' ov'' (Vo cs (Gq fs i p) ds)
  | [],_,_,_,_,_,_,_,_,_,_,_,_,hk,_,_,_=>by simp [okF] at hk
  | t :: r,j,0,p,x,x',ov,ov',ov'',cs,ds,d,h,hk,hs,hd,hv=>by
    have hlen:=Xq.length (t :: r) h
    simp only [Gr] at hlen
    simp only [Xq] at h ⊢
    simp only [okF] at hk
    simp only [Kk] at hs
    simp only [Gq]
    cases hy:Ghost.setP t p x.1 d with
    | none=>rw [hy] at hs; cases hs
    | some y =>
      rw [hy] at hs
      simp only [Option.some.injEq] at hs
      subst hs
      have h2:=Zj.length d.τ hd
      have h3:=Ul t p _ _ d hk hy
      have h5:=Zj.setP t p h.1 hk hy hd hv.same
      refine ⟨?_,?_⟩
      · have:=Up (cs:=cs) (o:=0) (n:=Zg t) (o':=Ja t p) (ds:=ds) (by omega) (by omega)
        rw [Nat.zero_add] at this
        rw [← O1,this]; exact h5
      · have:(Vo cs (Ja t p) ds).drop (Zg t)=cs.drop (Zg t):=by
          rw [T2,J1 (by omega),Hq (by omega) (by omega),← T2]
        rw [this]
        exact Xq.skip r (j+1) (i:=j) (by omega) h.2 hv
  | t :: r,j,n+1,p,x,x',ov,ov',ov'',cs,ds,d,h,hk,hs,hd,hv=>by
    have hlen:=Xq.length (t :: r) h
    simp only [Gr] at hlen
    simp only [Xq] at h ⊢
    simp only [okF] at hk
    simp only [Kk] at hs
    simp only [Gq]
    cases hy:Ghost.Kk r n p x.2 d with
    | none=>rw [hy] at hs; cases hs
    | some y =>
      rw [hy] at hs
      simp only [Option.some.injEq] at hs
      subst hs
      have h2:=Zj.length d.τ hd
      have h3:=Fy r n p _ _ d hk hy
      have h5:=Xq.setP r (j+1) n p h.2 hk hy hd (by rw [show j+1+n=j+(n+1) by omega]; exact hv)
      refine ⟨?_,?_⟩
      · rw [← O1,Hq (by omega) (by omega),O1]
        exact Zj.ov t (hv.other (by omega)) h.1
      · have:(Vo cs (Zg t+Gq r n p) ds).drop (Zg t)=Vo (cs.drop (Zg t)) (Gq r n p) ds:=by
          rw [T2,J1 (by omega),Up (by omega) (by omega),← T2]
        rw [this]; exact h5
theorem Xq.skip {A:Nat→Prop} {ρ:Xf} {w:World}:(fs:List Ty)→(j:Nat)→{i:Nat}→{p:Z8}→{x:K1 fs}→{ov ov' ov'':Ov}→{cs:List Value}→i<j →
    Xq A ρ w fs j x ov cs→Uv (i :: p) ov ov' ov''→Xq A ρ w fs j x ov'' cs
  | [],_,_,_,_,_,_,_,_,_,h,_=>by simpa only [Xq] using h
  | t :: r,j,i,p,x,ov,ov',ov'',cs,hij,h,hv=>by
    simp only [Xq] at h ⊢
    exact ⟨Zj.ov t (hv.other (by omega)) h.1,Xq.skip r (j+1) (by omega) h.2 hv⟩
end
end Go.Proofs.YtpemapoblhleoaaGreatDoor.Ghost
namespace Go.Proofs.YtpemapoblhleoaaGreatDoor.Ghost
open Go
def G3:Ty→Bool
  | .st _=>true
  | .arr _ _=>true
  | _=>false
def mkV (τ:Ty) (cs:List Value):Value:=match G3 τ with
  | true=>.agg cs.toArray
  | false=>cs.headD undef
theorem Jv {A:Nat→Prop} {ρ:Xf} {w:World} {τ:Ty} {x:den τ} {ov:Ov} {cs:List Value} (h:Zj A ρ w τ x ov cs):(mkV τ cs).cells.toList=cs:=by
  cases τ with
  | bool=>simp only [Zj] at h; subst h; rfl
  | int k=>simp only [Zj] at h; subst h; rfl
  | str=>simp only [Zj] at h; subst h; rfl
  | sl e=>simp only [Zj] at h; obtain ⟨_,_,_,rfl,_⟩:=h; rfl
  | arr n e=>rfl
  | st fs=>rfl
def Yr:List Value→List Value
  | []=>[]
  | v :: r=>v.cells.toList ++ Yr r
def Wd:List SV→List Value→Prop
  | u :: r,v :: s=>v.cells.size=Jb u∧(∀ c∈v.cells.toList,c.oneCell'=true)∧Wd r s
  | _,_=>True
mutual
def Zi (A:Nat→Prop) (ρ:Xf) (w:World):SV→Value→Prop
  | .dat τ x ov,v=>∃ cs,Zj A ρ w τ x ov cs∧v=mkV τ cs
  | .ptr g p,v=>∃ s,ρ g=some s∧s.ok p∧v=(match s.mp with | true=>.map (some s.b) | false=>.pointer (some ⟨s.b,s.off p,none⟩))
  | .ref τ x,v=>∃ b o cs,v=.pointer (some ⟨b,o,none⟩)∧A b∧w.rangeAt b o cs∧Zj A ρ w τ x [] cs
  | .refv u,v=>∃ b o u',v=.pointer (some ⟨b,o,none⟩)∧A b∧w.rangeAt b o (Value.cells u').toList∧Zi A ρ w u u'
  | .selfc f us,v=>∃ b o,v=.pointer (some ⟨b,o,none⟩)∧A b∧∃ vs:List Value,w.rangeAt b o [.func (.func f) #[] (v :: vs).toArray]∧Zq A ρ w us vs
  | .glo k,v=>v=.pointer (some ⟨k,0,none⟩)
  | .elp g i p,v=>∃ s,ρ g=some s∧s.mp=false∧i<s.len∧s.ok p∧v=.pointer (some ⟨s.b,i * s.es+s.off p,none⟩)
  | .clo f caps,v=>∃ vs:List Value,v=.func (.func f) #[] vs.toArray∧Zq A ρ w caps vs
  | .tup us,v=>∃ vs:List Value,v=.tuple vs.toArray∧Zq A ρ w us vs
  | .slv us,v=>∃ a n c,v=.slice a n c∧n=us.length∧∃ vs,Zq A ρ w us vs∧Wd us vs∧(∃ z,∀ u,u∈us→Jb u=z)∧(0<n→∃ b o,a=some ⟨b,o,none⟩∧A b∧w.rangeAt b o (Yr vs))
  | .fmap ks us,v=>∃ b es c,v=.map (some b)∧A b∧w.heap[b]?=some (.map es c)∧es.toList.map (·.key)=ks.map (Value.int .i64)∧Zq A ρ w us (es.toList.map (·.val))
  | .agv us,v=>∃ vs,v=.agg (Yr vs).toArray∧Zq A ρ w us vs∧Wd us vs
  | .nilfn,v=>v=.nilFunc
  | .und,v=>v=undef
  | .junk,_=>True
def Zq (A:Nat→Prop) (ρ:Xf) (w:World):List SV→List Value→Prop
  | [],vs=>vs=[]
  | u :: r,vs=>∃ v vs',vs=v :: vs'∧Zi A ρ w u v∧Zq A ρ w r vs'
end
theorem X8 {w w':World} {b o:Nat} {cs:List Value} (h:w'.heap[b]?=w.heap[b]?) (hr:w.rangeAt b o cs):w'.rangeAt b o cs:=fun j v hv=>by
  have:=hr j v hv
  unfold World.cell? at this ⊢
  simp only [h]
  exact this
theorem U4 {w w':World} {b o n:Nat} (h:w'.heap[b]?=w.heap[b]?) (hr:w.there b o n):w'.there b o n:=fun j hj=>by
  have:=hr j hj
  unfold World.cell? World.frozen? at this ⊢
  simp only [h]
  exact this
mutual
theorem Zi.mono {A A':Nat→Prop} {ρ ρ':Xf} {w w':World} (hA:∀ b,A b→A' b) (hρ:∀ g s,ρ g=some s→ρ' g=some s)
    (hw:∀ b,A b→w'.heap[b]?=w.heap[b]?):(u:SV)→{v:Value}→Zi A ρ w u v→Zi A' ρ' w' u v
  | .dat τ x ov,_,h=>by
    simp only [Zi] at h ⊢
    obtain ⟨cs,h1,h2⟩:=h
    exact ⟨cs,Zj.mono hA hρ hw τ h1,h2⟩
  | .ptr g p,_,h=>by
    simp only [Zi] at h ⊢
    obtain ⟨s,h1,h2⟩:=h
    exact ⟨s,hρ _ _ h1,h2⟩
  | .ref τ x,_,h=>by
    simp only [Zi] at h ⊢
    obtain ⟨b,o,cs,h1,h2,h3,h4⟩:=h
    exact ⟨b,o,cs,h1,hA b h2,X8 (hw b h2) h3,Zj.mono hA hρ hw τ h4⟩
  | .refv u,_,h=>by
    simp only [Zi] at h ⊢
    obtain ⟨b,o,u',h1,h2,h3,h4⟩:=h
    exact ⟨b,o,u',h1,hA b h2,X8 (hw b h2) h3,Zi.mono hA hρ hw u h4⟩
  | .selfc f us,_,h=>by
    simp only [Zi] at h ⊢
    obtain ⟨b,o,h1,h2,vs,h3,h4⟩:=h
    exact ⟨b,o,h1,hA b h2,vs,X8 (hw b h2) h3,Zq.mono hA hρ hw us h4⟩
  | .elp g i p,_,h=>by
    simp only [Zi] at h ⊢
    obtain ⟨s,h1,h2⟩:=h
    exact ⟨s,hρ _ _ h1,h2⟩
  | .clo f caps,_,h=>by
    simp only [Zi] at h ⊢
    obtain ⟨vs,h1,h2⟩:=h
    exact ⟨vs,h1,Zq.mono hA hρ hw caps h2⟩
  | .tup us,_,h=>by
    simp only [Zi] at h ⊢
    obtain ⟨vs,h1,h2⟩:=h
    exact ⟨vs,h1,Zq.mono hA hρ hw us h2⟩
  | .slv us,_,h=>by
    simp only [Zi] at h ⊢
    obtain ⟨a,n,c,h1,h2,vs,h3,h5,h6,h4⟩:=h
    refine ⟨a,n,c,h1,h2,vs,Zq.mono hA hρ hw us h3,h5,h6,fun hn => ?_⟩
    obtain ⟨b,o,k1,k2,k3⟩:=h4 hn
    exact ⟨b,o,k1,hA b k2,X8 (hw b k2) k3⟩
  | .fmap ks us,_,h=>by
    simp only [Zi] at h ⊢
    obtain ⟨b,es,c,h1,h2,h3,h4,h5⟩:=h
    exact ⟨b,es,c,h1,hA b h2,by rw [hw b h2]; exact h3,h4,Zq.mono hA hρ hw us h5⟩
  | .agv us,_,h=>by
    simp only [Zi] at h ⊢
    obtain ⟨vs,h1,h2,h3⟩:=h
    exact ⟨vs,h1,Zq.mono hA hρ hw us h2,h3⟩
  | .nilfn,_,h=>by simpa only [Zi] using h
  | .glo _,_,h=>by simpa only [Zi] using h
  | .und,_,h=>by simpa only [Zi] using h
  | .junk,_,_=>by simp only [Zi]
theorem Zq.mono {A A':Nat→Prop} {ρ ρ':Xf} {w w':World} (hA:∀ b,A b→A' b) (hρ:∀ g s,ρ g=some s→ρ' g=some s)
    (hw:∀ b,A b→w'.heap[b]?=w.heap[b]?):(us:List SV)→{vs:List Value}→Zq A ρ w us vs→Zq A' ρ' w' us vs
  | [],_,h=>by simpa only [Zq] using h
  | u :: r,_,h=>by
    simp only [Zq] at h ⊢
    obtain ⟨v,vs',h1,h2,h3⟩:=h
    exact ⟨v,vs',h1,Zi.mono hA hρ hw u h2,Zq.mono hA hρ hw r h3⟩
end
mutual
theorem Rf (f:Nat→Nat):(u:SV)→Jb (J2 f u)=Jb u
  | .dat _ _ _=>rfl
  | .ptr _ _=>rfl
  | .ref _ _=>rfl
  | .refv _=>rfl
  | .selfc _ _=>rfl
  | .glo _=>rfl
  | .elp _ _ _=>rfl
  | .clo _ _=>rfl
  | .tup _=>rfl
  | .slv _=>rfl
  | .fmap _ _=>rfl
  | .agv us=>by simp only [J2,Jb]; exact Ir f us
  | .nilfn=>rfl
  | .und=>rfl
  | .junk=>rfl
theorem Ir (f:Nat→Nat):(us:List SV)→K6 (Vz f us)=K6 us
  | []=>rfl
  | u :: r=>by simp only [Vz,K6,Rf f u,Ir f r]
end
theorem F0 (f:Nat→Nat):(us:List SV)→(vs:List Value)→Wd us vs→Wd (Vz f us) vs
  | [],_,_=>by simp [Vz,Wd]
  | _ :: _,[],_=>by simp [Vz,Wd]
  | u :: r,v :: s,h=>by
    simp only [Wd,Vz] at h ⊢
    exact ⟨by rw [Rf]; exact h.1,h.2.1,F0 f r s h.2.2⟩
theorem AAe {f:Nat→Nat} {u:SV}:{us:List SV}→u∈Vz f us→∃ u',u'∈us∧u=J2 f u'
  | v :: r,h=>by
    simp only [Vz,List.mem_cons] at h
    rcases h with rfl | h
    · exact ⟨v,by simp,rfl⟩
    · obtain ⟨u',h1,h2⟩:=AAe h
      exact ⟨u',by simp [h1],h2⟩
theorem Fk {f:Nat→Nat} {q:Z8} {g:Nat}:{ov:Ov}→((q,some g)∈Kg f ov↔∃ g',(q,some g')∈ov∧g=f g')
  | []=>by simp [Kg]
  | (q',some g') :: r=>by
    simp only [Kg,List.mem_cons,Fk (ov:=r),Prod.mk.injEq,Option.some.injEq]
    constructor
    · rintro (⟨rfl,rfl⟩ | ⟨g'',h1,h2⟩)
      · exact ⟨g',.inl ⟨rfl,rfl⟩,rfl⟩
      · exact ⟨g'',.inr h1,h2⟩
    · rintro ⟨g'',⟨rfl,rfl⟩ | h1,h2⟩
      · exact .inl ⟨rfl,h2⟩
      · exact .inr ⟨g'',h1,h2⟩
  | (q',none) :: r=>by simp [Kg,Fk (ov:=r)]
theorem Rp {f:Nat→Nat} {q:Z8}:{ov:Ov}→((∃ o,(q,o)∈Kg f ov)↔∃ o,(q,o)∈ov)
  | []=>by simp [Kg]
  | (q',some g') :: r=>by
    have:=Rp (f:=f) (q:=q) (ov:=r)
    simp only [Kg,List.mem_cons,Prod.mk.injEq,exists_or,this]
    constructor
    · rintro (⟨o,rfl,_⟩ | h)
      · exact .inl ⟨some g',rfl,rfl⟩
      · exact .inr h
    · rintro (⟨o,rfl,_⟩ | h)
      · exact .inl ⟨some (f g'),rfl,rfl⟩
      · exact .inr h
  | (q',none) :: r=>by
    have:=Rp (f:=f) (q:=q) (ov:=r)
    simp only [Kg,List.mem_cons,Prod.mk.injEq,exists_or,this]
theorem T9 (f:Nat→Nat) (p:Z8):(ov:Ov)→Jq p (Kg f ov)=Kg f (Jq p ov)
  | []=>rfl
  | (q,some g) :: r=>by
    simp only [Kg,Jq]
    cases Hu p q <;> simp [Kg,T9 f p r]
  | (q,none) :: r=>by
    simp only [Kg,Jq]
    cases Hu p q <;> simp [Kg,T9 f p r]
theorem Fs {p:Nat→Bool} {q:Z8} {g:Nat}:{ov:Ov}→Gy p ov=true→(q,some g)∈ov→p g=true
  | (q',some g') :: r,h,hm=>by
    simp only [Gy,Bool.and_eq_true] at h
    simp only [List.mem_cons,Prod.mk.injEq,Option.some.injEq] at hm
    rcases hm with ⟨rfl,rfl⟩ | hm
    · exact h.1
    · exact Fs h.2 hm
  | (q',none) :: r,h,hm=>by
    simp only [Gy] at h
    simp only [List.mem_cons,Prod.mk.injEq,reduceCtorEq,and_false,false_or] at hm
    exact Fs h hm
theorem Ww {p:Nat→Bool} {q:Z8}:{ov:Ov}→Gy p ov=true→Gy p (Jq q ov)=true
  | [],_=>rfl
  | (q',some g') :: r,h=>by
    simp only [Gy,Bool.and_eq_true] at h
    simp only [Jq]
    cases Hu q q'
    · exact Ww h.2
    · simp only [Gy,Bool.and_eq_true]; exact ⟨h.1,Ww h.2⟩
  | (q',none) :: r,h=>by
    simp only [Gy] at h
    simp only [Jq]
    cases Hu q q'
    · exact Ww h
    · simp only [Gy]; exact Ww h
section names
variable {A:Nat→Prop} {ρ ρ':Xf} {w:World} {p:Nat→Bool} {f:Nat→Nat} 
mutual
theorem Zj.names (hf:∀ g s,p g=true→ρ g=some s→ρ' (f g)=some s):(τ:Ty)→{x:den τ}→{ov:Ov}→{cs:List Value}→Gy p ov=true→Zj A ρ w τ x ov cs→Zj A ρ' w τ x (Kg f ov) cs
  | .bool,_,_,_,_,h=>by simpa only [Zj] using h
  | .int _,_,_,_,_,h=>by simpa only [Zj] using h
  | .str,_,_,_,_,h=>by simpa only [Zj] using h
  | .sl e,_,ov,_,hp,h=>by
    simp only [Zj] at h ⊢
    obtain ⟨a,n,c,h1,h2,h3⟩:=h
    refine ⟨a,n,c,h1,fun g hg => ?_,fun hn => ?_⟩
    · obtain ⟨g',k1,rfl⟩:=Fk.1 hg
      obtain ⟨s,ad,m1,m2⟩:=h2 g' k1
      exact ⟨s,ad,hf _ _ (Fs hp k1) m1,m2⟩
    · have hn':∀ o,([],o) ∉ ov:=fun o ho=>by
        obtain ⟨o',ho'⟩:=Rp (f:=f).2 ⟨o,ho⟩
        exact hn o' ho'
      refine ⟨(h3 hn').1,fun hpos => ?_⟩
      obtain ⟨b,o,ds,k1,k2,k3,k4,k5⟩:=(h3 hn').2 hpos
      exact ⟨b,o,ds,k1,k2,k3,k4,fun i hi=>by simpa only [Kg] using Zj.names hf e (ov:=[]) rfl (k5 i hi)⟩
  | .arr n e,_,ov,_,hp,h=>by
    simp only [Zj] at h ⊢
    exact ⟨h.1,h.2.1,fun i hi=>by rw [T9]; exact Zj.names hf e (Ww hp) (h.2.2 i hi)⟩
  | .st fs,_,_,_,hp,h=>by simp only [Zj] at h ⊢; exact Xq.names hf fs hp h
theorem Xq.names (hf:∀ g s,p g=true→ρ g=some s→ρ' (f g)=some s):(fs:List Ty)→{j:Nat}→{x:K1 fs}→{ov:Ov}→{cs:List Value}→Gy p ov=true→Xq A ρ w fs j x ov cs→Xq A ρ' w fs j x (Kg f ov) cs
  | [],_,_,_,_,_,h=>by simpa only [Xq] using h
  | t :: r,_,_,_,_,hp,h=>by
    simp only [Xq] at h ⊢
    exact ⟨by rw [T9]; exact Zj.names hf t (Ww hp) h.1,Xq.names hf r hp h.2⟩
end
mutual
theorem Zi.names (hf:∀ g s,p g=true→ρ g=some s→ρ' (f g)=some s):(u:SV)→{v:Value}→Uf p u=true→Zi A ρ w u v→Zi A ρ' w (J2 f u) v
  | .dat τ x ov,_,hp,h=>by
    simp only [Zi,J2,Uf] at h hp ⊢
    obtain ⟨cs,h1,h2⟩:=h
    exact ⟨cs,Zj.names hf τ hp h1,h2⟩
  | .ptr g q,_,hp,h=>by
    simp only [Zi,J2,Uf] at h hp ⊢
    obtain ⟨s,h1,h2⟩:=h
    exact ⟨s,hf _ _ hp h1,h2⟩
  | .ref τ x,_,hp,h=>by
    simp only [Zi,J2,Uf] at h hp ⊢
    obtain ⟨b,o,cs,h1,h2,h3,h4⟩:=h
    exact ⟨b,o,cs,h1,h2,h3,by simpa only [Kg] using Zj.names hf τ (ov:=[]) rfl h4⟩
  | .refv u,_,hp,h=>by
    simp only [Zi,J2,Uf] at h hp ⊢
    obtain ⟨b,o,u',h1,h2,h3,h4⟩:=h
    exact ⟨b,o,u',h1,h2,h3,Zi.names hf u hp h4⟩
  | .selfc c us,_,hp,h=>by
    simp only [Zi,J2,Uf] at h hp ⊢
    obtain ⟨b,o,h1,h2,vs,h3,h4⟩:=h
    exact ⟨b,o,h1,h2,vs,h3,Zq.names hf us hp h4⟩
  | .elp g i q,_,hp,h=>by
    simp only [Zi,J2,Uf] at h hp ⊢
    obtain ⟨s,h1,h2⟩:=h
    exact ⟨s,hf _ _ hp h1,h2⟩
  | .clo c caps,_,hp,h=>by
    simp only [Zi,J2,Uf] at h hp ⊢
    obtain ⟨vs,h1,h2⟩:=h
    exact ⟨vs,h1,Zq.names hf caps hp h2⟩
  | .tup us,_,hp,h=>by
    simp only [Zi,J2,Uf] at h hp ⊢
    obtain ⟨vs,h1,h2⟩:=h
    exact ⟨vs,h1,Zq.names hf us hp h2⟩
  | .slv us,_,hp,h=>by
    simp only [Zi,J2,Uf] at h hp ⊢
    obtain ⟨a,n,c,h1,h2,vs,h3,h5,⟨z,h6⟩,h4⟩:=h
    have:∀ l:List SV,(Vz f l).length=l.length:=fun l=>by induction l <;> simp_all [Vz]
    refine ⟨a,n,c,h1,by rw [this]; exact h2,vs,Zq.names hf us hp h3,F0 f us vs h5,⟨z,fun u hu => ?_⟩,h4⟩
    obtain ⟨u',k1,rfl⟩:=AAe hu
    rw [Rf]; exact h6 u' k1
  | .fmap ks us,_,hp,h=>by
    simp only [Zi,J2,Uf] at h hp ⊢
    obtain ⟨b,es,c,h1,h2,h3,h4,h5⟩:=h
    exact ⟨b,es,c,h1,h2,h3,h4,Zq.names hf us hp h5⟩
  | .agv us,_,hp,h=>by
    simp only [Zi,J2,Uf] at h hp ⊢
    obtain ⟨vs,h1,h2,h3⟩:=h
    exact ⟨vs,h1,Zq.names hf us hp h2,F0 f us vs h3⟩
  | .nilfn,_,_,h=>by simpa only [Zi,J2] using h
  | .glo _,_,_,h=>by simpa only [Zi,J2] using h
  | .und,_,_,h=>by simpa only [Zi,J2] using h
  | .junk,_,_,_=>by simp only [Zi,J2]
theorem Zq.names (hf:∀ g s,p g=true→ρ g=some s→ρ' (f g)=some s):(us:List SV)→{vs:List Value}→Om p us=true→Zq A ρ w us vs→Zq A ρ' w (Vz f us) vs
  | [],_,_,h=>by simpa only [Zq,Vz] using h
  | u :: r,_,hp,h=>by
    simp only [Zq,Vz,Om,Bool.and_eq_true] at h hp ⊢
    obtain ⟨v,vs',h1,h2,h3⟩:=h
    exact ⟨v,vs',h1,Zi.names hf u hp.1 h2,Zq.names hf r hp.2 h3⟩
end
end names
theorem Ih:(ov:Ov)→Kg id ov=ov
  | []=>rfl
  | (_,some _) :: r=>by simp [Kg,Ih r]
  | (_,none) :: r=>by simp [Kg,Ih r]
mutual
theorem Ig:(u:SV)→J2 id u=u
  | .dat _ _ ov=>by simp [J2,Ih ov]
  | .ptr _ _=>rfl
  | .ref _ _=>rfl
  | .refv u=>by simp [J2,Ig u]
  | .selfc _ us=>by simp [J2,Tj us]
  | .glo _=>rfl
  | .elp _ _ _=>rfl
  | .clo _ us=>by simp [J2,Tj us]
  | .tup us=>by simp [J2,Tj us]
  | .slv us=>by simp [J2,Tj us]
  | .fmap _ us=>by simp [J2,Tj us]
  | .agv us=>by simp [J2,Tj us]
  | .nilfn=>rfl
  | .und=>rfl
  | .junk=>rfl
theorem Tj:(us:List SV)→Vz id us=us
  | []=>rfl
  | u :: r=>by simp [Vz,Ig u,Tj r]
end
end Go.Proofs.YtpemapoblhleoaaGreatDoor.Ghost
namespace Go.Proofs.YtpemapoblhleoaaGreatDoor.Ghost
open Go
mutual
def Wb:SV→Z8→Nat
  | .agv vs,i :: p=>Gx vs i p
  | _,_=>0
def Gx:List SV→Nat→Z8→Nat
  | [],_,_=>0
  | v :: _,0,p=>Wb v p
  | v :: r,n+1,p=>Jb v+Gx r n p
end
theorem Us:(us:List SV)→(vs:List Value)→{A:Nat→Prop}→{ρ:Xf}→{w:World}→Zq A ρ w us vs→Wd us vs→(Yr vs).length=K6 us
  | [],_,_,_,_,h,_=>by simp only [Zq] at h; subst h; rfl
  | u :: r,_,_,_,_,h,hs=>by
    simp only [Zq] at h
    obtain ⟨v,vs',rfl,_,h3⟩:=h
    simp only [Wd] at hs
    simp only [Yr,List.length_append,K6,Array.length_toList,hs.1,Us r vs' h3 hs.2.2]
theorem Zi.size {A:Nat→Prop} {ρ:Xf} {w:World}:{u:SV}→{v:Value}→u≠.junk→Zi A ρ w u v→v.cells.size=Jb u
  | .dat τ x ov,v,_,h=>by
    simp only [Zi] at h
    obtain ⟨cs,h1,rfl⟩:=h
    rw [← Array.length_toList,Jv h1,Zj.length τ h1]; rfl
  | .ptr g p,v,_,h=>by
    simp only [Zi] at h
    obtain ⟨s,_,_,rfl⟩:=h
    cases s.mp <;> rfl
  | .ref τ x,v,_,h=>by
    simp only [Zi] at h
    obtain ⟨_,_,_,rfl,_⟩:=h; rfl
  | .refv u,v,_,h=>by
    simp only [Zi] at h
    obtain ⟨_,_,_,rfl,_⟩:=h; rfl
  | .selfc f us,v,_,h=>by
    simp only [Zi] at h
    obtain ⟨_,_,rfl,_⟩:=h; rfl
  | .glo k,v,_,h=>by
    simp only [Zi] at h
    subst h; rfl
  | .elp g i p,v,_,h=>by
    simp only [Zi] at h
    obtain ⟨_,_,_,_,_,rfl⟩:=h; rfl
  | .clo f caps,v,_,h=>by
    simp only [Zi] at h
    obtain ⟨_,rfl,_⟩:=h; rfl
  | .tup us,v,_,h=>by
    simp only [Zi] at h
    obtain ⟨_,rfl,_⟩:=h; rfl
  | .slv us,v,_,h=>by
    simp only [Zi] at h
    obtain ⟨_,_,_,rfl,_⟩:=h; rfl
  | .fmap ks us,v,_,h=>by
    simp only [Zi] at h
    obtain ⟨_,_,_,rfl,_⟩:=h; rfl
  | .agv us,v,_,h=>by
    simp only [Zi] at h
    obtain ⟨vs,rfl,h2,h3⟩:=h
    show (Yr vs).toArray.size=_
    rw [List.size_toArray,Us us vs h2 h3]; rfl
  | .nilfn,v,_,h=>by simp only [Zi] at h; subst h; rfl
  | .und,v,_,h=>by simp only [Zi] at h; subst h; rfl
  | .junk,_,h,_=>absurd rfl h
mutual
theorem Zj.one {A:Nat→Prop} {ρ:Xf} {w:World}:(τ:Ty)→{x:den τ}→{ov:Ov}→{cs:List Value}→Zj A ρ w τ x ov cs→∀ c∈cs,c.oneCell'=true
  | .bool,_,_,_,h=>by simp only [Zj] at h; subst h; simp [Value.oneCell']
  | .int _,_,_,_,h=>by simp only [Zj] at h; subst h; simp [Value.oneCell']
  | .str,_,_,_,h=>by simp only [Zj] at h; subst h; simp [Value.oneCell']
  | .sl _,_,_,_,h=>by simp only [Zj] at h; obtain ⟨_,_,_,rfl,_⟩:=h; simp [Value.oneCell']
  | .arr n e,_,_,cs,h=>by
    simp only [Zj] at h
    intro c hc
    obtain ⟨k,hk,rfl⟩:=List.getElem_of_mem hc
    have hk':k<n * Zg e:=by rw [← h.2.1]; exact hk
    have hpos:0<Zg e:=by
      rcases Nat.eq_zero_or_pos (Zg e) with h0 | h0
      · rw [h0] at hk'; simp at hk'
      · exact h0
    have hi:k / Zg e<n:=Nat.div_lt_of_lt_mul (by rw [Nat.mul_comm]; exact hk')
    refine Zj.one e (h.2.2 _ hi) _ ?_
    have hm:=Nat.div_add_mod k (Zg e)
    have hlt:=Nat.mod_lt k hpos
    rw [List.mem_iff_getElem?]
    refine ⟨k % Zg e,?_⟩
    rw [List.getElem?_take_of_lt hlt,List.getElem?_drop,Nat.mul_comm,hm,List.getElem?_eq_getElem hk]
  | .st fs,_,_,_,h=>by simp only [Zj] at h; exact Xq.one fs h
theorem Xq.one {A:Nat→Prop} {ρ:Xf} {w:World}:(fs:List Ty)→{j:Nat}→{x:K1 fs}→{ov:Ov}→{cs:List Value}→Xq A ρ w fs j x ov cs→∀ c∈cs,c.oneCell'=true
  | [],_,_,_,_,h=>by simp only [Xq] at h; subst h; simp
  | t :: r,_,_,_,cs,h=>by
    simp only [Xq] at h
    intro c hc
    rw [← List.take_append_drop (Zg t) cs,List.mem_append] at hc
    rcases hc with hc | hc
    · exact Zj.one t h.1 c hc
    · exact Xq.one r h.2 c hc
end
theorem C2:(us:List SV)→(vs:List Value)→us.length=vs.length→Wd us vs→∀ c∈Yr vs,c.oneCell'=true
  | [],[],_,_=>by simp [Yr]
  | u :: r,v :: s,hl,h=>by
    simp only [Wd] at h
    intro c hc
    simp only [Yr,List.mem_append] at hc
    rcases hc with hc | hc
    · exact h.2.1 c hc
    · exact C2 r s (by simpa using hl) h.2.2 c hc
theorem Zq.len {A:Nat→Prop} {ρ:Xf} {w:World}:(us:List SV)→{vs:List Value}→Zq A ρ w us vs→us.length=vs.length
  | [],_,h=>by simp only [Zq] at h; subst h; rfl
  | u :: r,_,h=>by
    simp only [Zq] at h
    obtain ⟨v,vs',rfl,_,h3⟩:=h
    simp [Zq.len r h3]
theorem Zi.one {A:Nat→Prop} {ρ:Xf} {w:World} {u:SV} {v:Value} {n:Nat} (hs:Ga n u=true) (h:Zi A ρ w u v):∀ c∈v.cells.toList,c.oneCell'=true:=by
  cases u with
  | dat τ x ov =>
    simp only [Zi] at h
    obtain ⟨cs,h1,rfl⟩:=h
    rw [Jv h1]
    exact Zj.one τ h1
  | ptr g p =>
    simp only [Zi] at h
    obtain ⟨s,_,_,rfl⟩:=h
    cases s.mp <;> simp [Value.cells,Value.oneCell']
  | ref τ x =>
    simp only [Zi] at h
    obtain ⟨_,_,_,rfl,_⟩:=h; simp [Value.cells,Value.oneCell']
  | refv u =>
    simp only [Zi] at h
    obtain ⟨_,_,_,rfl,_⟩:=h; simp [Value.cells,Value.oneCell']
  | selfc f us =>
    simp only [Zi] at h
    obtain ⟨_,_,rfl,_⟩:=h; simp [Value.cells,Value.oneCell']
  | glo k =>
    simp only [Zi] at h
    subst h; simp [Value.cells,Value.oneCell']
  | elp g i p =>
    simp only [Zi] at h
    obtain ⟨_,_,_,_,_,rfl⟩:=h; simp [Value.cells,Value.oneCell']
  | clo f caps =>
    simp only [Zi] at h
    obtain ⟨_,rfl,_⟩:=h; simp [Value.cells,Value.oneCell']
  | slv us =>
    simp only [Zi] at h
    obtain ⟨_,_,_,rfl,_⟩:=h; simp [Value.cells,Value.oneCell']
  | fmap ks us =>
    simp only [Zi] at h
    obtain ⟨_,_,_,rfl,_⟩:=h; simp [Value.cells,Value.oneCell']
  | agv us =>
    simp only [Zi] at h
    obtain ⟨vs,rfl,h2,h3⟩:=h
    exact C2 us vs (Zq.len us h2) h3
  | nilfn=>simp only [Zi] at h; subst h; simp [Value.cells,Value.oneCell']
  | und=>simp [Ga] at hs
  | tup us=>simp [Ga] at hs
  | junk=>simp [Ga] at hs
mutual
theorem Zi.getV {A:Nat→Prop} {ρ:Xf} {w:World}:(u:SV)→{p:Z8}→{v:Value}→{x:SV}→Zi A ρ w u v→Ghost.getV u p=some x →
    ∃ v',Zi A ρ w x v'∧v'.cells.toList=cut v.cells.toList (Wb u p) v'.cells.size
  | u,[],v,x,h,hg=>by
    have:u=x:=by cases u <;> simpa [Ghost.getV] using hg
    subst this
    refine ⟨v,h,?_⟩
    have:Wb u []=0:=by cases u <;> rfl
    rw [this,AGx]; simp
  | .agv us,i :: p,v,x,h,hg=>by
    simp only [Zi] at h
    obtain ⟨vs,rfl,h2,h3⟩:=h
    simp only [Ghost.getV] at hg
    obtain ⟨v',k1,k2⟩:=Zq.getV us h2 h3 hg
    exact ⟨v',k1,by simpa only [Wb,Value.cells] using k2⟩
  | .dat _ _ _,_ :: _,_,_,_,hg=>by simp [Ghost.getV] at hg
  | .ptr _ _,_ :: _,_,_,_,hg=>by simp [Ghost.getV] at hg
  | .ref _ _,_ :: _,_,_,_,hg=>by simp [Ghost.getV] at hg
  | .refv _,_ :: _,_,_,_,hg=>by simp [Ghost.getV] at hg
  | .selfc _ _,_ :: _,_,_,_,hg=>by simp [Ghost.getV] at hg
  | .glo _,_ :: _,_,_,_,hg=>by simp [Ghost.getV] at hg
  | .elp _ _ _,_ :: _,_,_,_,hg=>by simp [Ghost.getV] at hg
  | .clo _ _,_ :: _,_,_,_,hg=>by simp [Ghost.getV] at hg
  | .tup _,_ :: _,_,_,_,hg=>by simp [Ghost.getV] at hg
  | .slv _,_ :: _,_,_,_,hg=>by simp [Ghost.getV] at hg
  | .fmap _ _,_ :: _,_,_,_,hg=>by simp [Ghost.getV] at hg
  | .nilfn,_ :: _,_,_,_,hg=>by simp [Ghost.getV] at hg
  | .und,_ :: _,_,_,_,hg=>by simp [Ghost.getV] at hg
  | .junk,_ :: _,_,_,_,hg=>by simp [Ghost.getV] at hg
theorem Zq.getV {A:Nat→Prop} {ρ:Xf} {w:World}:(us:List SV)→{i:Nat}→{p:Z8}→{vs:List Value}→{x:SV}→Zq A ρ w us vs→Wd us vs→getV.getVL us i p=some x →
    ∃ v',Zi A ρ w x v'∧v'.cells.toList=cut (Yr vs) (Gx us i p) v'.cells.size
  | [],_,_,_,_,_,_,hg=>by simp [getV.getVL] at hg
  | u :: r,0,p,vs,x,h,hs,hg=>by
    simp only [Zq] at h
    obtain ⟨v,vs',rfl,h2,h3⟩:=h
    simp only [getV.getVL] at hg
    obtain ⟨v',k1,k2⟩:=Zi.getV u h2 hg
    refine ⟨v',k1,?_⟩
    rw [k2]
    simp only [Gx,Yr]
    refine List.ext_getElem? fun k => ?_
    have hl:v'.cells.size≤v.cells.size - Wb u p∨True:=.inr trivial
    have k3:(cut v.cells.toList (Wb u p) v'.cells.size).length=v'.cells.size:=by rw [← k2]; simp
    have k4:v'.cells.size=min v'.cells.size (v.cells.size - Wb u p):=by
      unfold cut at k3
      simp only [List.length_take,List.length_drop,Array.length_toList] at k3
      omega
    rw [Qu,Qu]
    by_cases hk:k<v'.cells.size
    · simp only [hk,if_true]
      rw [List.getElem?_append_left (by simp only [Array.length_toList]; omega)]
    · simp only [hk,if_false]
  | u :: r,n+1,p,vs,x,h,hs,hg=>by
    simp only [Zq] at h
    obtain ⟨v,vs',rfl,h2,h3⟩:=h
    simp only [Wd] at hs
    simp only [getV.getVL] at hg
    obtain ⟨v',k1,k2⟩:=Zq.getV r h3 hs.2.2 hg
    refine ⟨v',k1,?_⟩
    rw [k2]
    simp only [Gx,Yr]
    unfold cut
    have hz:List.drop v.cells.size v.cells.toList=[]:=List.drop_eq_nil_of_le (by simp)
    rw [← hs.1,← List.drop_drop,List.drop_append_of_le_length (by simp),hz,List.nil_append]
end
def Xr (A:Nat→Prop) (ρ:Xf) (w:World) (κ ν:Ty):List (den κ×den ν)→List MapEntry→Prop
  | [],es=>es=[]
  | (k,v) :: r,es=>∃ e es',es=e :: es'∧(∃ cs,Zj A ρ w κ k [] cs∧e.key=mkV κ cs)∧(∃ cs,Zj A ρ w ν v [] cs∧e.val=mkV ν cs)∧Xr A ρ w κ ν r es'
def AAx (es:List MapEntry) (c:Nat):Prop:=c=es.length∧∀ (j:Nat) e,es[j]?=some e→e.born=j
def Own (own:Nat→Option Nat) (w:World) (g:Nat) (s:Ky) (cs:List Value):Prop :=
  own s.b=some g∧w.rangeAt s.b 0 cs∧w.there s.b 0 cs.length
def ACm (A:Nat→Prop) (w:World) (s:Ky) (cs:List Value):Prop:=A s.b∧w.rangeAt s.b 0 cs
def W8 (A:Nat→Prop) (ρ:Xf) (w:World) (g:Nat) (τ:Ty) (x:den τ) (ov:Ov) (M:Ky→List Value→Prop):Prop :=
  ∃ s cs,ρ g=some s∧s.mp=false∧s.off=Ja τ∧s.ok=okP τ∧M s cs∧Zj A ρ w τ x ov cs
def okV (u:SV) (p:Z8):Prop:=∃ x,getV u p=some x
def Un (A:Nat→Prop) (ρ:Xf) (w:World) (g:Nat) (u:SV) (M:Ky→List Value→Prop):Prop :=
  ∃ s v,ρ g=some s∧s.mp=false∧s.off=Wb u∧s.ok=okV u∧u≠.junk∧M s (Value.cells v).toList∧Zi A ρ w u v
def V1 (A:Nat→Prop) (ρ:Xf) (w:World) (g:Nat) (e:Ty) (l:List (den e)) (M:Ky→List Value→Prop):Prop :=
  ∃ s,ρ g=some s∧s.mp=false∧s.es=Zg e∧0<Zg e∧s.off=Ja e∧s.ok=okP e∧List.length l=s.len∧s.len≤s.cap ∧
    (0<s.cap→∃ cs,cs.length=s.cap * s.es∧M s cs∧∀ i,i<s.len→Zj A ρ w e (List.getD l i (dft e)) [] (cut cs (i * s.es) s.es))
def Vk (A:Nat→Prop) (ρ:Xf) (own:Nat→Option Nat) (w:World) (g:Nat):Obj→Prop
  | .box τ x ov=>W8 A ρ w g τ x ov (Own own w g)
  | .boxv u=>Un A ρ w g u (Own own w g)
  | .fbox τ x ov=>W8 A ρ w g τ x ov (ACm A w)
  | .fboxv u=>Un A ρ w g u (ACm A w)
  | .arr e l=>V1 A ρ w g e l (Own own w g)
  | .frz e l=>V1 A ρ w g e l (ACm A w)
  | .map κ ν l=>∃ s es c,ρ g=some s∧s.mp=true∧own s.b=some g∧(∀ p,s.ok p↔p=[])∧w.heap[s.b]?=some (.map es c)∧Xr A ρ w κ ν l es.toList∧AAx es.toList c
  | .hid=>True
  | .dead=>True
  | .none=>ρ g=none
theorem Xr.mono {A A':Nat→Prop} {ρ ρ':Xf} {w w':World} (hA:∀ b,A b→A' b) (hρ:∀ g s,ρ g=some s→ρ' g=some s)
    (hw:∀ b,A b→w'.heap[b]?=w.heap[b]?) {κ ν:Ty}:{l:List (den κ×den ν)}→{es:List MapEntry}→Xr A ρ w κ ν l es→Xr A' ρ' w' κ ν l es
  | [],_,h=>by simpa only [Xr] using h
  | (k,v) :: r,_,h=>by
    simp only [Xr] at h ⊢
    obtain ⟨e,es',h1,⟨c1,h2,h3⟩,⟨c2,h4,h5⟩,h6⟩:=h
    exact ⟨e,es',h1,⟨c1,Zj.mono hA hρ hw κ h2,h3⟩,⟨c2,Zj.mono hA hρ hw ν h4,h5⟩,Xr.mono hA hρ hw h6⟩
theorem Vk.mono {A A':Nat→Prop} {ρ ρ':Xf} {own own':Nat→Option Nat} {w w':World} {g:Nat} (hA:∀ b,A b→A' b) (hρ:∀ g s,ρ g=some s→ρ' g=some s)
    (hw:∀ b,A b∨own b=some g→w'.heap[b]?=w.heap[b]?) (ho:∀ b,own b=some g→own' b=some g) (hn:ρ g=none→ρ' g=none):{o:Obj}→Vk A ρ own w g o→Vk A' ρ' own' w' g o
  | .box τ x ov,h=>by
    simp only [Vk,W8] at h ⊢
    obtain ⟨s,cs,h1,h2,h3,h4,⟨m1,m2,m3⟩,h5⟩:=h
    exact ⟨s,cs,hρ _ _ h1,h2,h3,h4,⟨ho _ m1,X8 (hw _ (.inr m1)) m2,U4 (hw _ (.inr m1)) m3⟩,Zj.mono hA hρ (fun b hb=>hw b (.inl hb)) τ h5⟩
  | .boxv u,h=>by
    simp only [Vk,Un] at h ⊢
    obtain ⟨s,cs,h1,h2,h3,h4,h6,⟨m1,m2,m3⟩,h5⟩:=h
    exact ⟨s,cs,hρ _ _ h1,h2,h3,h4,h6,⟨ho _ m1,X8 (hw _ (.inr m1)) m2,U4 (hw _ (.inr m1)) m3⟩,Zi.mono hA hρ (fun b hb=>hw b (.inl hb)) u h5⟩
  | .fbox τ x ov,h=>by
    simp only [Vk,W8] at h ⊢
    obtain ⟨s,cs,h1,h2,h3,h4,⟨m1,m2⟩,h5⟩:=h
    exact ⟨s,cs,hρ _ _ h1,h2,h3,h4,⟨hA _ m1,X8 (hw _ (.inl m1)) m2⟩,Zj.mono hA hρ (fun b hb=>hw b (.inl hb)) τ h5⟩
  | .fboxv u,h=>by
    simp only [Vk,Un] at h ⊢
    obtain ⟨s,cs,h1,h2,h3,h4,h6,⟨m1,m2⟩,h5⟩:=h
    exact ⟨s,cs,hρ _ _ h1,h2,h3,h4,h6,⟨hA _ m1,X8 (hw _ (.inl m1)) m2⟩,Zi.mono hA hρ (fun b hb=>hw b (.inl hb)) u h5⟩
  | .arr e l,h=>by
    simp only [Vk,V1] at h ⊢
    obtain ⟨s,h1,h2,h3,h4,h5,h6,h7,h8,h9⟩:=h
    refine ⟨s,hρ _ _ h1,h2,h3,h4,h5,h6,h7,h8,fun hc => ?_⟩
    obtain ⟨cs,k1,⟨m1,m2,m3⟩,k2⟩:=h9 hc
    exact ⟨cs,k1,⟨ho _ m1,X8 (hw _ (.inr m1)) m2,U4 (hw _ (.inr m1)) m3⟩,fun i hi=>Zj.mono hA hρ (fun b hb=>hw b (.inl hb)) e (k2 i hi)⟩
  | .frz e l,h=>by
    simp only [Vk,V1] at h ⊢
    obtain ⟨s,h1,h2,h3,h4,h5,h6,h7,h8,h9⟩:=h
    refine ⟨s,hρ _ _ h1,h2,h3,h4,h5,h6,h7,h8,fun hc => ?_⟩
    obtain ⟨cs,k1,⟨m1,m2⟩,k2⟩:=h9 hc
    exact ⟨cs,k1,⟨hA _ m1,X8 (hw _ (.inl m1)) m2⟩,fun i hi=>Zj.mono hA hρ (fun b hb=>hw b (.inl hb)) e (k2 i hi)⟩
  | .map κ ν l,h=>by
    simp only [Vk] at h ⊢
    obtain ⟨s,es,c,h1,h2,h3,h4,h5,h6,h7⟩:=h
    exact ⟨s,es,c,hρ _ _ h1,h2,ho _ h3,h4,by rw [hw _ (.inr h3)]; exact h5,Xr.mono hA hρ (fun b hb=>hw b (.inl hb)) h6,h7⟩
  | .hid,_=>trivial
  | .dead,_=>trivial
  | .none,h=>hn h
def Vv (A:Nat→Prop) (w:World):Prop:=∀ k d,R3 k=some d→A k∧∃ cs,Zj A (fun _=>none) w d.τ d.x [] cs∧w.rangeAt k 0 cs
theorem Vv.mono {A A':Nat→Prop} {w w':World} (hA:∀ b,A b→A' b) (hw:∀ b,A b→w'.heap[b]?=w.heap[b]?) (h:Vv A w):Vv A' w':=fun k d hd=>by
  obtain ⟨h1,cs,h2,h3⟩:=h k d hd
  exact ⟨hA k h1,cs,Zj.mono hA (fun _ _ h=>h) hw d.τ h2,X8 (hw k h1) h3⟩
structure Y8 where
  w:World
  A:Nat→Prop
structure St (B:Nat) (w0:Y8) (A:Nat→Prop) (ρ:Xf) (own:Nat→Option Nat) (w:World) (h:Nat→Obj):Prop where
  objs:∀ g,Vk A ρ own w g (h g)
  apart:∀ b g,own b=some g→¬ A b
  old:∀ b,A b→b<w.heap.size
  oldO:∀ b g,own b=some g→b<w.heap.size
  base:∀ b g,own b=some g→B≤b
  below:RowKit.Below B w0.w w
  hB:B≤w0.w.heap.size
  imm:∀ b,A b→w0.A b∨B≤b
  names:∀ g,(∃ s,ρ g=some s)→h g≠.none
  glob:Vv A w
structure Yh (A:Nat→Prop) (ρ:Xf) (w:World) (A':Nat→Prop) (ρ':Xf) (w':World):Prop where
  hA:∀ b,A b→A' b
  hρ:∀ g s,ρ g=some s→ρ' g=some s
  hw:∀ b,A b→w'.heap[b]?=w.heap[b]?
theorem Yh.refl (A:Nat→Prop) (ρ:Xf) (w:World):Yh A ρ w A ρ w:=⟨fun _ h=>h,fun _ _ h=>h,fun _ _=>rfl⟩
theorem Yh.trans {A A' A'':Nat→Prop} {ρ ρ' ρ'':Xf} {w w' w'':World} (h:Yh A ρ w A' ρ' w') (k:Yh A' ρ' w' A'' ρ'' w''):Yh A ρ w A'' ρ'' w'' :=
  ⟨fun b hb=>k.hA b (h.hA b hb),fun g s hs=>k.hρ g s (h.hρ g s hs),fun b hb=>(k.hw b (h.hA b hb)).trans (h.hw b hb)⟩
theorem Yh.repV {A A':Nat→Prop} {ρ ρ':Xf} {w w':World} (h:Yh A ρ w A' ρ' w') {u:SV} {v:Value} (hv:Zi A ρ w u v):Zi A' ρ' w' u v :=
  Zi.mono h.hA h.hρ h.hw u hv
theorem Yh.repC {A A':Nat→Prop} {ρ ρ':Xf} {w w':World} (h:Yh A ρ w A' ρ' w') {τ:Ty} {x:den τ} {ov:Ov} {cs:List Value} (hv:Zj A ρ w τ x ov cs):Zj A' ρ' w' τ x ov cs :=
  Zj.mono h.hA h.hρ h.hw τ hv
theorem St.turn {B:Nat} {w0:Y8} {A A':Nat→Prop} {ρ ρ':Xf} {own own':Nat→Option Nat} {w w':World} {h h':Nat→Obj} (st:St B w0 A ρ own w h) (G:Nat→Prop)
    (hl:Yh A ρ w A' ρ' w') (hw:∀ b g,own b=some g→¬ G g→w'.heap[b]?=w.heap[b]?) (ho:∀ b g,own b=some g→¬ G g→own' b=some g)
    (hn:∀ g,¬ G g→ρ g=none→ρ' g=none) (hh:∀ g,¬ G g→h' g=h g) (hG:∀ g,G g→Vk A' ρ' own' w' g (h' g)) (hGn:∀ g,G g→h' g≠.none)
    (hap:∀ b g,own' b=some g→¬ A' b) (hold:∀ b,A' b→b<w'.heap.size) (holdO:∀ b g,own' b=some g→b<w'.heap.size) (hbase:∀ b g,own' b=some g→B≤b)
    (hbelow:RowKit.Below B w w') (himm:∀ b,A' b→A b∨B≤b):St B w0 A' ρ' own' w' h' where
  glob:=st.glob.mono hl.hA hl.hw
  objs g:=by
    by_cases hg:G g
    · exact hG g hg
    · rw [hh g hg]
      refine Vk.mono hl.hA hl.hρ (fun b hb => ?_) (fun b hb=>ho b g hb hg) (hn g hg) (st.objs g)
      rcases hb with hb | hb
      · exact hl.hw b hb
      · exact hw b g hb hg
  apart:=hap
  old:=hold
  oldO:=holdO
  base:=hbase
  below:=st.below.trans hbelow
  hB:=st.hB
  imm b hb:=(himm b hb).elim (st.imm b) .inr
  names g hg:=by
    by_cases hg':G g
    · exact hGn g hg'
    · rw [hh g hg']
      refine st.names g ?_
      cases hr:ρ g with
      | none=>obtain ⟨s,hs⟩:=hg; rw [hn g hg' hr] at hs; cases hs
      | some s=>exact ⟨s,rfl⟩
end Go.Proofs.YtpemapoblhleoaaGreatDoor.Ghost
namespace Go.Proofs.YtpemapoblhleoaaGreatDoor.Ghost
open Go
mutual
def zeroCells:Ty→List Value
  | .bool=>[.bool false]
  | .int k=>[.int k 0]
  | .str=>[.string ⟨#[]⟩]
  | .sl _=>[.slice none 0 0]
  | .arr n e=>E0 n (zeroCells e)
  | .st fs=>Hv fs
def Hv:List Ty→List Value
  | []=>[]
  | t :: r=>zeroCells t ++ Hv r
def E0:Nat→List Value→List Value
  | 0,_=>[]
  | n+1,l=>l ++ E0 n l
end
def AFc:Value→Value→Bool
  | .bool a,.bool b=>a == b
  | .int k a,.int k' b=>decide (k=k') && decide (a=b)
  | .string a,.string b=>Nat.beq a.data.size 0 && Nat.beq b.data.size 0
  | .slice none 0 0,.slice none 0 0=>true
  | .nilFunc,.nilFunc=>true
  | _,_=>false
def F4:List Value→List Value→Bool
  | [],[]=>true
  | a :: r,b :: s=>AFc a b && F4 r s
  | _,_=>false
theorem AM4:{a b:Value}→AFc a b=true→a=b
  | .bool a,.bool b,h=>by simp [AFc] at h; rw [h]
  | .int k a,.int k' b,h=>by simp [AFc] at h; rw [h.1,h.2]
  | .string a,.string b,h=>by
    simp only [AFc,Bool.and_eq_true] at h
    have h1:=Nat.eq_of_beq_eq_true h.1
    have h2:=Nat.eq_of_beq_eq_true h.2
    obtain ⟨⟨l⟩⟩:=a
    obtain ⟨⟨m⟩⟩:=b
    simp at h1 h2
    subst h1; subst h2; rfl
  | .slice none 0 0,.slice none 0 0,_=>rfl
  | .nilFunc,.nilFunc,_=>rfl
theorem Md:{a b:List Value}→F4 a b=true→a=b
  | [],[],_=>rfl
  | a :: r,b :: s,h=>by
    simp only [F4,Bool.and_eq_true] at h
    rw [AM4 h.1,Md h.2]
def Jn (P:Program) (t:TypeId) (n:Nat):Bool:=match P.info? t with
  | some i=>Nat.beq i.size n
  | none=>false
mutual
def Xv (P:Program):Ty→TypeId→Bool
  | .bool,t=>(match P.underlying t with | some .bool=>true | _=>false)
  | .int k,t=>(match P.underlying t with | some (.int k')=>decide (k=k') | _=>false)
  | .str,t=>(match P.underlying t with | some .string=>true | _=>false)
  | .sl e,t=>(match P.underlying t with | some (.slice e')=>Xv P e e' && Jn P e' (Zg e) && Nat.blt 0 (Zg e) | _=>false)
  | .arr n e,t=>(match P.underlying t with | some (.array n' e')=>Nat.beq n' n && Xv P e e' && Jn P e' (Zg e) && Nat.blt 0 (Zg e) | _=>false)
  | .st fs,t=>(match P.underlying t with | some (.struct l)=>Q0 P fs 0 l.toList | _=>false)
def Q0 (P:Program):List Ty→Nat→List Field→Bool
  | [],_,[]=>true
  | t :: r,o,f :: s=>Nat.beq f.offset o && Jn P f.type (Zg t) && Nat.blt 0 (Zg t) && Xv P t f.type && Q0 P r (o+Zg t) s
  | _,_,_=>false
end
def Le (P:Program) (τ:Ty) (t:TypeId):Bool:=match P.info? t with
  | some i=>(match i.zero with | some (.agg cs)=>G3 τ && F4 cs.toList (zeroCells τ) | some v => !(G3 τ) && F4 [v] (zeroCells τ) | none=>false)
  | none=>false
theorem G1 {P:Program} {t:TypeId} {n:Nat} (h:Jn P t n=true):∃ i,P.info? t=some i∧i.size=n:=by
  unfold Jn at h
  split at h
  · rename_i i hi; exact ⟨i,hi,Nat.eq_of_beq_eq_true h⟩
  · cases h
theorem AGj {P:Program} {t:TypeId} {n:Nat} (h:Jn P t n=true):(P.info? t).map (·.size)=some n:=by
  obtain ⟨i,h1,h2⟩:=G1 h
  rw [h1]; simp [h2]
theorem J3 {P:Program} {t:TypeId} {n:Nat} (h:Jn P t n=true) (w:World):(sizeOf t).run P w=.ok n w:=by
  obtain ⟨i,h1,h2⟩:=G1 h
  simp [sizeOf,typeInfo,h1,h2]
theorem Gh {P:Program} {t:TypeId} {i:TypeInfo} (h:P.info? t=some i) (w:World):(typeInfo t).run P w=.ok i w:=by
  simp [typeInfo,h]
theorem Ec {P:Program}:{τ:Ty}→{t:TypeId}→Xv P τ t=true→∃ d,P.underlying t=some d∧d.isRow=G3 τ
  | .bool,_,h=>by simp only [Xv] at h; split at h <;> simp_all [G3,TypeDesc.isRow]
  | .int k,_,h=>by simp only [Xv] at h; split at h <;> simp_all [G3,TypeDesc.isRow]
  | .str,_,h=>by simp only [Xv] at h; split at h <;> simp_all [G3,TypeDesc.isRow]
  | .sl e,_,h=>by simp only [Xv] at h; split at h <;> simp_all [G3,TypeDesc.isRow]
  | .arr n e,_,h=>by simp only [Xv] at h; split at h <;> simp_all [G3,TypeDesc.isRow]
  | .st fs,_,h=>by simp only [Xv] at h; split at h <;> simp_all [G3,TypeDesc.isRow]
theorem Bf {P:Program} {t:TypeId} {d:TypeDesc} (h:P.underlying t=some d) (w:World):(isAgg t).run P w=.ok d.isRow w:=by
  unfold isAgg
  rw [Sem.run_bind,run_underlying h w]
  cases d <;> rfl
theorem U6 {P:Program} {τ:Ty} {t:TypeId} (h:Le P τ t=true) (w:World):(zeroValue t).run P w=.ok (mkV τ (zeroCells τ)) w:=by
  unfold Le at h
  cases hi:P.info? t with
  | none=>rw [hi] at h; cases h
  | some i =>
    simp only [hi] at h
    simp only [zeroValue,Sem.run_bind,Gh hi,Result.andThen_ok]
    cases hz:i.zero with
    | none=>simp [hz] at h
    | some v =>
      simp only [hz] at h
      have key:v=mkV τ (zeroCells τ):=by
        cases v with
        | agg cs =>
          simp only [Bool.and_eq_true] at h
          have:=Md h.2
          unfold mkV
          rw [h.1,← this]
        | _ =>
          simp only [Bool.and_eq_true,Bool.not_eq_true'] at h
          have:=Md h.2
          unfold mkV
          rw [h.1,← this]; rfl
      subst key
      rfl
theorem AD4 (n:Nat) (l:List Value):(E0 n l).length=n * l.length:=by
  induction n with
  | zero=>simp [E0]
  | succ n ih=>simp only [E0,List.length_append,ih,Nat.add_mul,Nat.one_mul]; omega
theorem AC3 (l:List Value):(n i:Nat)→i<n→cut (E0 n l) (i * l.length) l.length=l
  | 0,_,h=>by omega
  | n+1,0,_=>by simp [cut,E0]
  | n+1,i+1,h=>by
    have:=AC3 l n i (by omega)
    unfold cut at this ⊢
    rw [show (i+1) * l.length=l.length+i * l.length by rw [Nat.add_mul]; omega]
    simp only [E0]
    rw [← List.drop_drop,List.drop_append_of_le_length (by omega),List.drop_length,List.nil_append]
    exact this
theorem O6 {α:Type} {n i:Nat} {x d:α} (h:i<n):(List.replicate n x).getD i d=x:=by
  rw [List.getD_eq_getElem?_getD,List.getElem?_replicate,if_pos h]; rfl
mutual
theorem Zj.zero (A:Nat→Prop) (ρ:Xf) (w:World):(τ:Ty)→Zj A ρ w τ (dft τ) [] (zeroCells τ)
  | .bool=>by simp only [Zj,dft,zeroCells]
  | .int k=>by simp only [Zj,dft,zeroCells]
  | .str=>by simp only [Zj,dft,zeroCells]
  | .sl e=>by
    simp only [Zj,zeroCells]
    exact ⟨none,0,0,rfl,by simp,fun _=>⟨rfl,by simp⟩⟩
  | .arr n e=>by
    have he:=Zj.zero A ρ w e
    have hl:=Zj.length e he
    simp only [Zj,zeroCells]
    refine ⟨by simp [dft],by rw [AD4,hl],fun i hi => ?_⟩
    have hc:=AC3 (zeroCells e) n i hi
    rw [hl] at hc
    simp only [dft]
    change Zj A ρ w e _ _ (cut (E0 n (zeroCells e)) (i * Zg e) (Zg e))
    rw [O6 hi,hc]
    exact he
  | .st fs=>by simp only [Zj,zeroCells]; exact Xq.zero A ρ w fs 0
theorem Xq.zero (A:Nat→Prop) (ρ:Xf) (w:World):(fs:List Ty)→(j:Nat)→Xq A ρ w fs j (BI8 fs) [] (Hv fs)
  | [],_=>by simp only [Xq,Hv]
  | t :: r,j=>by
    have ht:=Zj.zero A ρ w t
    have hl:=Zj.length t ht
    simp only [Xq,Hv]
    exact ⟨by rw [← hl,List.take_left]; exact ht,by rw [← hl,List.drop_left]; exact Xq.zero A ρ w r (j+1)⟩
end
def Ny:(τ:Ty)→den τ→Value→Bool
  | .bool,x,.bool b=>x == b
  | .int k,x,.int k' n=>decide (k=k') && decide (x=n)
  | .str,x,.string s=>decide (x.data.toList=s.data.toList)
  | .sl _,x,.slice _ 0 _=>List.isEmpty x
  | _,_,_=>false
def Xn:Opd→Operand→Bool
  | .t i,.tmp j=>Nat.beq i j
  | .g k,.global g=>Nat.beq k g
  | .c τ x,.const v=>Ny τ x v
  | .f f,.func g=>Nat.beq f g
  | .nf,.const .nilFunc=>true
  | _,_=>false
def Jp:List Opd→List Operand→Bool
  | [],[]=>true
  | x :: r,y :: s=>Xn x y && Jp r s
  | _,_=>false
def Xh (A:Nat→Prop) (ρ:Xf) (w:World) (s:Nat→SV) (a:Act):Prop:=∀ i,Zi A ρ w (s i) (a.eval (.tmp i))
theorem AC1 {A:Nat→Prop} {ρ:Xf} {w:World}:(τ:Ty)→(x:den τ)→(v:Value)→Ny τ x v=true→Zi A ρ w (.dat τ x []) v
  | .bool,x,.bool b,h=>by simp only [Ny,beq_iff_eq] at h; subst h; simp only [Zi,Zj]; exact ⟨_,rfl,rfl⟩
  | .int k,x,.int k' n,h=>by
    simp only [Ny,Bool.and_eq_true,decide_eq_true_eq] at h
    obtain ⟨rfl,rfl⟩:=h
    simp only [Zi,Zj]; exact ⟨_,rfl,rfl⟩
  | .str,x,.string s,h=>by
    simp only [Ny,decide_eq_true_eq] at h
    have:x=s:=by
      obtain ⟨⟨l⟩⟩:=x
      obtain ⟨⟨m⟩⟩:=s
      simpa using h
    subst this
    simp only [Zi,Zj]; exact ⟨_,rfl,rfl⟩
  | .sl e,x,.slice a 0 c,h=>by
    simp only [Ny,List.isEmpty_iff] at h
    subst h
    simp only [Zi,Zj]
    exact ⟨[.slice a 0 c],⟨a,0,c,rfl,by simp,fun _=>⟨rfl,by simp⟩⟩,rfl⟩
theorem X5 {A:Nat→Prop} {ρ:Xf} {w:World} {s:Nat→SV} {a:Act} (hs:Xh A ρ w s a):{x:Opd}→{y:Operand}→Xn x y=true→Zi A ρ w (evO s x) (a.eval y)
  | .t i,.tmp j,h=>by
    have:=Nat.eq_of_beq_eq_true (by simpa only [Xn] using h)
    subst this
    exact hs i
  | .c τ x,.const v,h=>AC1 τ x v h
  | .f f,.func g,h=>by
    have:=Nat.eq_of_beq_eq_true (by simpa only [Xn] using h)
    subst this
    simp only [evO,Zi]
    exact ⟨[],rfl,by simp only [Zq]⟩
  | .nf,.const .nilFunc,_=>by simp only [evO,Zi]; rfl
  | .g k,.global g,h=>by
    have:=Nat.eq_of_beq_eq_true (by simpa only [Xn] using h)
    subst this
    simp only [evO,Zi]; rfl
theorem Rb {A:Nat→Prop} {ρ:Xf} {w:World} {s:Nat→SV} {a:Act} (hs:Xh A ρ w s a):{xs:List Opd}→{ys:List Operand}→Jp xs ys=true→Zq A ρ w (xs.map (evO s)) (ys.map a.eval)
  | [],[],_=>by simp only [List.map_nil,Zq]
  | x :: r,y :: t,h=>by
    simp only [Jp,Bool.and_eq_true] at h
    simp only [List.map_cons,Zq]
    exact ⟨_,_,rfl,X5 hs h.1,Rb hs h.2⟩
end Go.Proofs.YtpemapoblhleoaaGreatDoor.Ghost
namespace Go.Proofs.YtpemapoblhleoaaGreatDoor.Ghost
open Go
def Yf (h:Nat→Obj):Eff→Nat→Obj
  | []=>h
  | (g,o) :: r=>Yf (fun i=>if i=g then o else h i) r
theorem Wp:(h:Y7)→(g i:Nat)→(o:Obj)→Xu (Rr h g o) i=if i=g then o else Xu h i
  | [],0,0,o=>by simp [Rr,Xu]
  | [],0,i+1,o=>by simp [Rr,Xu]
  | [],g+1,0,o=>by simp [Rr,Xu]
  | [],g+1,i+1,o=>by
    have:=Wp [] g i o
    simp only [Rr,Xu,this,Nat.add_right_cancel_iff]
  | x :: r,0,0,o=>by simp [Rr,Xu]
  | x :: r,0,i+1,o=>by simp [Rr,Xu]
  | x :: r,g+1,0,o=>by simp [Rr,Xu]
  | x :: r,g+1,i+1,o=>by
    have:=Wp r g i o
    simp only [Rr,Xu,this,Nat.add_right_cancel_iff]
theorem O8 (h:Y7):(e:Eff)→Xu (Pm h e)=Yf (Xu h) e
  | []=>rfl
  | (g,o) :: r=>by
    have h1:=O8 (Rr h g o) r
    simp only [Pm,Yf,h1]
    congr 1
    funext i
    rw [Wp]
def Zv (P:Program) (o:Oper) (a:Act) (w:World) (B:Nat) (w0:Y8) (A:Nat→Prop) (ρ:Xf) (v:SV) (h':Nat→Obj):Prop :=
  ∀ (next:Act→World→Prop) (Q:Exit→Act→World→Prop),
    (∀ v' w' A' ρ' own',St B w0 A' ρ' own' w' h'→Yh A ρ w A' ρ' w'→Zi A' ρ' w' v v'→next (a.put o.dst v') w')→o.wp P a w next Q
section
variable {P:Program} {o:Oper} {a:Act} {w:World} {B:Nat} {w0:Y8} {A:Nat→Prop} {ρ:Xf} {own:Nat→Option Nat} {h:Nat→Obj} {s:Nat→SV}
theorem Zv.pure {v:SV} {v':Value} (st:St B w0 A ρ own w h) (he:(execOp a.eval o).run P w=.ok (.value v') w) (hv:Zi A ρ w v v') :
    Zv P o a w B w0 A ρ v h:=fun next Q K=>by
  unfold Oper.wp; rw [he]; exact K v' w A ρ own st (Yh.refl ..) hv
theorem Zv.value {v:SV} {v':Value} {w':World} {A':Nat→Prop} {ρ':Xf} {own':Nat→Option Nat} {h':Nat→Obj} (he:(execOp a.eval o).run P w=.ok (.value v') w')
    (st:St B w0 A' ρ' own' w' h') (hl:Yh A ρ w A' ρ' w') (hv:Zi A' ρ' w' v v'):Zv P o a w B w0 A ρ v h':=fun next Q K=>by
  unfold Oper.wp; rw [he]; exact K v' w' A' ρ' own' st hl hv
theorem Zv.skip {v:SV} {w':World} {A':Nat→Prop} {ρ':Xf} {own':Nat→Option Nat} {h':Nat→Obj} (he:(execOp a.eval o).run P w=.ok .skip w')
    (st:St B w0 A' ρ' own' w' h') (hl:Yh A ρ w A' ρ' w') (hv:Zi A' ρ' w' v undef):Zv P o a w B w0 A ρ v h':=fun next Q K=>by
  unfold Oper.wp; rw [he]; exact K undef w' A' ρ' own' st hl hv
theorem Hr {k:IntKind} {n:Int} {ov:Ov} {v:Value} (h:Zi A ρ w (.dat (.int k) n ov) v):v=.int k n:=by
  simp only [Zi,Zj] at h; obtain ⟨_,rfl,rfl⟩:=h; rfl
theorem Vt {b:Bool} {ov:Ov} {v:Value} (h:Zi A ρ w (.dat .bool b ov) v):v=.bool b:=by
  simp only [Zi,Zj] at h; obtain ⟨_,rfl,rfl⟩:=h; rfl
theorem Gc {k:IntKind} {n:Int} {ov:Ov}:Zi A ρ w (.dat (.int k) n ov) (.int k n):=by
  simp only [Zi,Zj]; exact ⟨_,rfl,rfl⟩
theorem Hm {b:Bool} {ov:Ov}:Zi A ρ w (.dat .bool b ov) (.bool b):=by
  simp only [Zi,Zj]; exact ⟨_,rfl,rfl⟩
theorem AEo {v:Value} (h:Zi A ρ w .und v):v=undef:=by simpa only [Zi] using h
def ABd (o:Oper) (x:Opd):Bool:=match o.op with
  | .move y=>Xn x y
  | .assign y=>Xn x y
  | _=>false
variable (st:St B w0 A ρ own w h) (hs:Xh A ρ w s a)
include st hs
theorem AIt {x:Opd} (hc:ABd o x=true):Zv P o a w B w0 A ρ (evO s x) h:=by
  unfold ABd at hc
  split at hc
  · rename_i y hy
    exact Zv.pure st (by simp [execOp,hy]) (X5 hs hc)
  · rename_i y hy
    exact Zv.pure st (by simp [execOp,hy]) (X5 hs hc)
  · cases hc
def E8 (o:Oper) (c x y:Opd):Bool:=match o.op with
  | .pick c' x' y'=>Xn c c' && Xn x x' && Xn y y'
  | _=>false
omit st hs in
theorem ABf {c x y:Opd} (hc:E8 o c x y=true):∃ c' x' y',o.op=.pick c' x' y'∧Xn c c'=true∧Xn x x'=true∧Xn y y'=true:=by
  unfold E8 at hc
  split at hc
  · rename_i c' x' y' ho
    simp only [Bool.and_eq_true] at hc
    exact ⟨c',x',y',ho,hc.1.1,hc.1.2,hc.2⟩
  · cases hc
theorem Fh {c x y:Opd} (hc:E8 o c x y=true) {t:Bool} {ov:Ov} (ht:evO s c=.dat .bool t ov) {v:SV}
    (hv:∀ u u',Zi A ρ w (evO s x) u→Zi A ρ w (evO s y) u'→Zi A ρ w v (if t then u else u')):Zv P o a w B w0 A ρ v h:=by
  obtain ⟨c',x',y',ho,h1,h2,h3⟩:=ABf hc
  have k1:=X5 hs h1
  rw [ht] at k1
  have k1:=Vt k1
  exact Zv.pure st (by simp [execOp,ho,k1,asBool]) (hv _ _ (X5 hs h2) (X5 hs h3))
def AA4 (o:Oper) (op:BinOp) (x y:Opd):Bool:=match o.op with
  | .binOp op' _ x' y' _=>decide (op'=op) && Xn x x' && Xn y y'
  | _=>false
omit st hs in
theorem ACy {op:BinOp} {x y:Opd} (hc:AA4 o op x y=true):∃ t x' y' t',o.op=.binOp op t x' y' t'∧Xn x x'=true∧Xn y y'=true:=by
  unfold AA4 at hc
  split at hc
  · rename_i op' t x' y' t' ho
    simp only [Bool.and_eq_true,decide_eq_true_eq] at hc
    obtain ⟨⟨rfl,h1⟩,h2⟩:=hc
    exact ⟨t,x',y',t',ho,h1,h2⟩
  · cases hc
omit st hs in
theorem E5 (op:BinOp) (t:TypeId) (x y:Operand) (k k':IntKind) (m n:Int):(eqGuard op t x y (.int k m) (.int k' n)).run P w=.ok () w:=by
  unfold eqGuard; cases op <;> rfl
omit st hs in
theorem Pe (op:BinOp) (t:TypeId) (x y:Operand) (m n:Bool):(eqGuard op t x y (.bool m) (.bool n)).run P w=.ok () w:=by
  unfold eqGuard; cases op <;> rfl
omit st hs in
theorem Of (op:BinOp) (t:TypeId) (x y:Operand) (m n:ByteArray):(eqGuard op t x y (.string m) (.string n)).run P w=.ok () w:=by
  unfold eqGuard; cases op <;> rfl
theorem ALq {R:Type} {op:BinOp} {x y:Opd} {K:SV→Option R} {r:R}
    (hc:AA4 o op x y=true) (hg:AH1 op (evO s x) (evO s y) K=some r) :
    ∃ v,K v=some r∧Zv P o a w B w0 A ρ v h:=by
  obtain ⟨t,x',y',t',ho,h1,h2⟩:=ACy hc
  have k1:=X5 hs h1
  have k2:=X5 hs h2
  unfold AH1 at hg
  split at hg
  · rename_i k m ov k' n ov' e1 e2
    rw [e1] at k1; rw [e2] at k2
    have k1:=Hr k1
    have k2:=Hr k2
    split at hg
    · rename_i hk
      subst hk
      have fin:∀ v:Value,(Go.binOp op t (.int k m) (.int k n)).run P w=.ok v w→(execOp a.eval o).run P w=.ok (.value v) w:=fun v hv=>by
        simp only [execOp,ho,k1,k2,Sem.run_bind,E5,Result.andThen_ok,hv,Sem.run_pure]
      unfold Do at hg
      split at hg
      · exact ⟨_,hg,Zv.pure st (fin _ (by simp [Go.binOp,Op.intArith])) Gc⟩
      · exact ⟨_,hg,Zv.pure st (fin _ (by simp [Go.binOp,Op.intArith])) Gc⟩
      · exact ⟨_,hg,Zv.pure st (fin _ (by simp [Go.binOp,Op.intArith])) Gc⟩
      · split at hg
        · cases hg
        · rename_i hn
          exact ⟨_,hg,Zv.pure st (fin _ (by simp [Go.binOp,Op.intDiv,hn])) Gc⟩
      · split at hg
        · cases hg
        · rename_i hn
          exact ⟨_,hg,Zv.pure st (fin _ (by simp [Go.binOp,Op.intDiv,hn])) Gc⟩
      · exact ⟨_,hg,Zv.pure st (fin _ (by simp [Go.binOp,Op.intCmp]; try rfl)) Hm⟩
      · exact ⟨_,hg,Zv.pure st (fin _ (by simp [Go.binOp,Op.intCmp,bne]; try rfl)) Hm⟩
      · exact ⟨_,hg,Zv.pure st (fin _ (by simp [Go.binOp,Op.intCmp]; try rfl)) Hm⟩
      · exact ⟨_,hg,Zv.pure st (fin _ (by simp [Go.binOp,Op.intCmp]; try rfl)) Hm⟩
      · exact ⟨_,hg,Zv.pure st (fin _ (by simp [Go.binOp,Op.intCmp]; try rfl)) Hm⟩
      · exact ⟨_,hg,Zv.pure st (fin _ (by simp [Go.binOp,Op.intCmp]; try rfl)) Hm⟩
      · cases hg
    · cases hg
  · cases hg
end
end Go.Proofs.YtpemapoblhleoaaGreatDoor.Ghost
namespace Go.Proofs.YtpemapoblhleoaaGreatDoor.Ghost
open Go
section
variable {P:Program} {o:Oper} {a:Act} {w:World} {B:Nat} {w0:Y8} {A:Nat→Prop} {ρ:Xf} {own:Nat→Option Nat} {h:Nat→Obj} {s:Nat→SV}
def AFm (o:Oper) (x:Opd):Bool:=match o.op with
  | .unOp .not _ y=>Xn x y
  | _=>false
def AFl (o:Oper) (x:Opd):Bool:=match o.op with
  | .unOp .neg _ y=>Xn x y
  | _=>false
def isI (P:Program) (k:IntKind) (t:TypeId):Bool:=match P.underlying t with
  | some (.int k')=>decide (k'=k)
  | _=>false
def AA6 (P:Program) (o:Oper) (k:IntKind) (x:Opd):Bool:=match o.op with
  | .convert src dst y=>isI P k dst && (P.underlying src).isSome && Xn x y
  | _=>false
def My (o:Oper) (x:Opd) (i:Nat):Bool:=match o.op with
  | .extract y j=>Nat.beq i j && Xn x y
  | _=>false
def AA8 (o:Oper) (f:FuncId) (caps:List Opd):Bool:=match o.op with
  | .makeFunc (.func g) first captured=>Nat.beq f g && first.toList.isEmpty && Jp caps captured.toList
  | _=>false
def Ou (o:Oper) (b:Builtin→Bool) (xs:List Opd):Bool:=match o.op with
  | .call c=>(match c.callee with | .builtin b'=>b b' | _=>false) && Jp xs c.args.toList
  | _=>false
def AL5 (P:Program) (o:Oper):Bool:=match o.op with
  | .call c=>(match c.argTypes.toList with
    | t :: _=>(match P.underlying t with | some .string=>true | _=>false)
    | []=>false)
  | _=>false
def AL4 (P:Program) (o:Oper):Bool:=match o.op with
  | .call c=>(match c.argTypes.toList with | t :: _=>(match P.underlying t with | some (.slice _)=>true | _=>false) | _=>false)
  | _=>false
theorem AL1 {k:IntKind} {t:TypeId} (h:isI P k t=true):P.underlying t=some (.int k):=by
  unfold isI at h
  split at h
  · rename_i k' hk; rw [hk]; simp at h; rw [h]
  · cases h
variable (st:St B w0 A ρ own w h) (hs:Xh A ρ w s a)
include st hs
theorem ALx {x:Opd} (hc:AFm o x=true) {b:Bool} {ov:Ov} (hx:evO s x=.dat .bool b ov):Zv P o a w B w0 A ρ (.dat .bool (!b) []) h:=by
  unfold AFm at hc
  split at hc
  · rename_i t y ho
    have k:=X5 hs hc
    rw [hx] at k
    have k:=Vt k
    exact Zv.pure st (by simp [execOp,ho,k,Op.unary]) Hm
  · cases hc
theorem ALw {x:Opd} (hc:AFl o x=true) {k:IntKind} {n:Int} {ov:Ov} (hx:evO s x=.dat (.int k) n ov):Zv P o a w B w0 A ρ (.dat (.int k) (k.wrap (0 - n)) []) h:=by
  unfold AFl at hc
  split at hc
  · rename_i t y ho
    have k1:=X5 hs hc
    rw [hx] at k1
    have k1:=Hr k1
    exact Zv.pure st (v':=.int k (k.wrap (0 - n))) (by simp only [execOp,ho,k1,Op.unary,Op.intArith,Sem.run_bind,Sem.run_pure,Result.andThen_ok]) Gc
  · cases hc
theorem AIn {x:Opd} {k:IntKind} (hc:AA6 P o k x=true) {k':IntKind} {n:Int} {ov:Ov} (hx:evO s x=.dat (.int k') n ov):Zv P o a w B w0 A ρ (.dat (.int k) (k.wrap n) []) h:=by
  unfold AA6 at hc
  split at hc
  · rename_i src dst y ho
    simp only [Bool.and_eq_true] at hc
    have k1:=X5 hs hc.2
    rw [hx] at k1
    have k1:=Hr k1
    obtain ⟨d,hd⟩:=Option.isSome_iff_exists.1 hc.1.2
    have hi:=AL1 hc.1.1
    refine Zv.pure st (v':=.int k (k.wrap n)) ?_ Gc
    simp only [execOp,ho,k1,convert,Sem.run_bind,run_underlying hd w,run_underlying hi w,Result.andThen_ok,Conv.intToInt,Sem.run_pure]
  · cases hc
theorem ABp {x:Opd} {i:Nat} (hc:My o x i=true) {us:List SV} {u:SV} (hx:evO s x=.tup us) (hu:us[i]?=some u):Zv P o a w B w0 A ρ u h:=by
  unfold My at hc
  split at hc
  · rename_i y j ho
    simp only [Bool.and_eq_true] at hc
    have hij:=Nat.eq_of_beq_eq_true hc.1
    subst hij
    have k1:=X5 hs hc.2
    rw [hx] at k1
    simp only [Zi] at k1
    obtain ⟨vs,k1,k2⟩:=k1
    have get:∀ (us:List SV) (vs:List Value) (i:Nat),Zq A ρ w us vs→us[i]?=some u→∃ v,vs[i]?=some v∧Zi A ρ w u v:=by
      intro us
      induction us with
      | nil=>intro vs i _ h; simp at h
      | cons u' r ih =>
        intro vs i h1 h2
        simp only [Zq] at h1
        obtain ⟨v,vs',rfl,h3,h4⟩:=h1
        cases i with
        | zero=>simp at h2; subst h2; exact ⟨v,by simp,h3⟩
        | succ i=>simpa using ih vs' i h4 (by simpa using h2)
    obtain ⟨v,m1,m2⟩:=get us vs i k2 hu
    refine Zv.pure st (v':=v) ?_ m2
    simp [execOp,ho,k1,Instr.extract,m1]
  · cases hc
theorem AIo {f:FuncId} {caps:List Opd} (hc:AA8 o f caps=true):Zv P o a w B w0 A ρ (.clo f (caps.map (evO s))) h:=by
  unfold AA8 at hc
  split at hc
  · rename_i g first captured ho
    simp only [Bool.and_eq_true,List.isEmpty_iff] at hc
    have hij:=Nat.eq_of_beq_eq_true hc.1.1
    subst hij
    have k1:=Rb hs hc.2
    have hf:first = #[]:=by simpa using hc.1.2
    subst hf
    refine Zv.pure st (v':=.func (.func f) #[] (captured.map a.eval)) ?_ ?_
    · simp [execOp,ho,Instr.makeFunc]
    · simp only [Zi]
      exact ⟨_,by rw [← Array.toList_map],k1⟩
  · cases hc
omit st hs in
theorem Td {b:Builtin→Bool} {xs:List Opd} (hc:Ou o b xs=true):∃ c b',o.op=.call c∧c.callee=.builtin b'∧b b'=true∧Jp xs c.args.toList=true:=by
  unfold Ou at hc
  split at hc
  · rename_i c ho
    simp only [Bool.and_eq_true] at hc
    cases hb:c.callee with
    | builtin b'=>simp only [hb] at hc; exact ⟨c,b',ho,hb,hc.1,hc.2⟩
    | value f=>simp [hb] at hc
    | invoke f m=>simp [hb] at hc
  · cases hc
omit st hs in
theorem U2 {c:Call} {b:Builtin} (ho:o.op=.call c) (hb:c.callee=.builtin b) :
    (execOp a.eval o).run P w=(builtin b c.argTypes o.type (c.args.map fun | .const _=>true | _=>false) (c.args.map a.eval)).run P w:=by
  simp [execOp,ho,Go.resolve,hb,invoke]; rfl
theorem AIq {x:Opd} (hc:Ou o (fun | .len=>true | _=>false) [x]=true) (ht:AL5 P o=true) {y:ByteArray} {ov:Ov} (hx0:evO s x=.dat .str y ov):Zv P o a w B w0 A ρ (.dat (.int .i64) ((ByteArray.size y:Nat):Int) []) h:=by
  obtain ⟨c,b,ho,hb,hbb,hx⟩:=Td hc
  cases b <;> simp at hbb
  simp only [AL5,ho] at ht
  have hx':∃ y,c.args.toList=[y]∧Xn x y=true:=by
    cases hl:c.args.toList with
    | nil=>rw [hl] at hx; simp [Jp] at hx
    | cons y r=>cases r with
      | nil=>rw [hl] at hx; simp [Jp] at hx; exact ⟨y,rfl,hx⟩
      | cons z r=>rw [hl] at hx; simp [Jp] at hx
  obtain ⟨z,hy,hxy⟩:=hx'
  have hargs:c.args = #[z]:=by rw [← Array.toArray_toList (xs:=c.args),hy]
  cases htl:c.argTypes.toList with
  | nil=>simp [htl] at ht
  | cons t tr =>
    simp only [htl] at ht
    have ht0:c.argTypes[0]?=some t:=by rw [← Array.getElem?_toList,htl]; rfl
    have hu:P.underlying t=some .string:=by
      split at ht
      · rename_i he; exact he
      · cases ht
    have k1:=X5 hs hxy
    rw [hx0] at k1
    simp only [Zi,Zj] at k1
    obtain ⟨cs,rfl,hv⟩:=k1
    have hv:a.eval z=.string y:=hv
    refine Zv.pure st (v':=.int .i64 ((ByteArray.size y:Nat):Int)) ?_ Gc
    rw [U2 ho hb,hargs]
    simp only [builtin,Builtin.len_,List.map_toArray,List.map_cons,List.map_nil,hv,ht0,Sem.run_bind]
    simp [run_underlying hu w,goInt]
theorem ALt {x:Opd} (hc:Ou o (fun | .len=>true | _=>false) [x]=true) (ht:AL4 P o=true) {R:Type} {K:SV→Option R} {r:R} (hg:ABv h (evO s x) K=some r) :
    ∃ v,K v=some r∧Zv P o a w B w0 A ρ v h:=by
  obtain ⟨c,b,ho,hb,hbb,hx⟩:=Td hc
  cases b <;> simp at hbb
  simp only [AL4,ho] at ht
  have hx':∃ y,c.args.toList=[y]∧Xn x y=true:=by
    cases hl:c.args.toList with
    | nil=>rw [hl] at hx; simp [Jp] at hx
    | cons y r=>cases r with
      | nil=>rw [hl] at hx; simp [Jp] at hx; exact ⟨y,rfl,hx⟩
      | cons z r=>rw [hl] at hx; simp [Jp] at hx
  obtain ⟨y,hy,hxy⟩:=hx'
  have hargs:c.args = #[y]:=by rw [← Array.toArray_toList (xs:=c.args),hy]
  cases htl:c.argTypes.toList with
  | nil=>simp [htl] at ht
  | cons t tr =>
    simp only [htl] at ht
    have ht0:c.argTypes[0]?=some t:=by rw [← Array.getElem?_toList,htl]; rfl
    have hu:∃ e,P.underlying t=some (.slice e):=by
      split at ht
      · rename_i e he; exact ⟨e,he⟩
      · cases ht
    obtain ⟨e,hu⟩:=hu
    have k1:=X5 hs hxy
    have fin:∀ (ad:Option Addr) (n m:Nat),a.eval y=.slice ad n m→(execOp a.eval o).run P w=.ok (.value (.int .i64 n)) w:=fun ad n m hv=>by
      rw [U2 ho hb,hargs]
      simp only [builtin,Builtin.len_,List.map_toArray,List.map_cons,List.map_nil,hv,ht0,Sem.run_bind]
      simp [run_underlying hu w,goInt]
    unfold ABv at hg
    split at hg
    · rename_i el l e1
      rw [e1] at k1
      simp only [Zi,Zj] at k1
      obtain ⟨cs,⟨ad,n,m,rfl,_,h3⟩,hv⟩:=k1
      have hn:=(h3 (by simp)).1
      subst hn
      exact ⟨_,hg,Zv.pure st (fin ad _ m hv) Gc⟩
    · rename_i el l0 g e1
      rw [e1] at k1
      simp only [Zi,Zj] at k1
      obtain ⟨cs,⟨ad,n,m,rfl,h2,_⟩,hv⟩:=k1
      obtain ⟨sp,ad',hr,_,heq,_⟩:=h2 g (by simp)
      have ob:=st.objs g
      split at hg
      · rename_i el' l e2
        rw [e2] at ob
        simp only [Vk,V1] at ob
        obtain ⟨sp',hr',_,_,_,_,_,hl,_⟩:=ob
        rw [hr] at hr'
        cases hr'
        cases heq
        refine ⟨_,hg,Zv.pure st (fin _ _ _ hv) ?_⟩
        rw [hl]; exact Gc
      · rename_i el' l e2
        rw [e2] at ob
        simp only [Vk,V1] at ob
        obtain ⟨sp',hr',_,_,_,_,_,hl,_⟩:=ob
        rw [hr] at hr'
        cases hr'
        cases heq
        refine ⟨_,hg,Zv.pure st (fin _ _ _ hv) ?_⟩
        rw [hl]; exact Gc
      · cases hg
    · rename_i us e1
      rw [e1] at k1
      simp only [Zi] at k1
      obtain ⟨ad,n,m,hv,hn,_⟩:=k1
      subst hn
      exact ⟨_,hg,Zv.pure st (fin _ _ _ hv) Gc⟩
    · cases hg
end
end Go.Proofs.YtpemapoblhleoaaGreatDoor.Ghost
namespace Go.Proofs.YtpemapoblhleoaaGreatDoor.Ghost
open Go
mutual
theorem Tm:(τ:Ty)→(p q:Z8)→(x:den τ)→(d:Dyn)→okP τ p→getP p τ x=some d→okP d.τ q→okP τ (p ++ q)∧Ja τ (p ++ q)=Ja τ p+Ja d.τ q
  | τ,[],q,x,d,_,h,hq=>by
    have:d=⟨τ,x⟩:=by cases τ <;> simpa [getP,eq_comm] using h
    subst this
    have h0:Ja τ []=0:=by cases τ <;> rfl
    exact ⟨hq,by rw [h0,Nat.zero_add]; rfl⟩
  | .st fs,i :: p,q,x,d,hk,h,hq=>by
    simp only [okP] at hk
    simp only [getP] at h
    simp only [List.cons_append,okP,Ja]
    exact C1 fs i p q x d hk h hq
  | .arr n e,i :: p,q,x,d,hk,h,hq=>by
    simp only [okP] at hk
    simp only [getP] at h
    simp only [List.cons_append,okP,Ja]
    have:=Tm e p q _ d hk.2 h hq
    exact ⟨⟨hk.1,this.1⟩,by rw [this.2]; omega⟩
  | .bool,_ :: _,_,_,_,hk,_,_=>by simp [okP] at hk
  | .int _,_ :: _,_,_,_,hk,_,_=>by simp [okP] at hk
  | .str,_ :: _,_,_,_,hk,_,_=>by simp [okP] at hk
  | .sl _,_ :: _,_,_,_,hk,_,_=>by simp [okP] at hk
theorem C1:(fs:List Ty)→(i:Nat)→(p q:Z8)→(x:K1 fs)→(d:Dyn)→okF fs i p →
    (match Gm fs i x with | some d=>getP p d.τ d.x | none=>none)=some d→okP d.τ q→okF fs i (p ++ q)∧Gq fs i (p ++ q)=Gq fs i p+Ja d.τ q
  | [],_,_,_,_,_,hk,_,_=>by simp [okF] at hk
  | t :: r,0,p,q,x,d,hk,h,hq=>by
    simp only [okF] at hk
    simp only [Gm] at h
    simp only [okF,Gq]
    exact Tm t p q x.1 d hk h hq
  | t :: r,n+1,p,q,x,d,hk,h,hq=>by
    simp only [okF] at hk
    simp only [Gm] at h
    simp only [okF,Gq]
    have:=C1 r n p q x.2 d hk h hq
    exact ⟨this.1,by rw [this.2]; omega⟩
end
theorem Pv {P:Program}:(fs:List Ty)→(l:List Field)→(o j:Nat)→Q0 P fs o l=true→j<fs.length →
    ∃ f t,l[j]?=some f∧fs[j]?=some t∧f.offset=o+Gq fs j []∧Jn P f.type (Zg t)=true∧0<Zg t∧Xv P t f.type=true∧okF fs j []
  | [],_,_,_,_,hj=>by simp at hj
  | _ :: _,[],_,_,h,_=>by simp [Q0] at h
  | t :: r,f :: s,o,0,h,_=>by
    simp only [Q0,Bool.and_eq_true] at h
    obtain ⟨⟨⟨⟨h1,h2⟩,h3⟩,h4⟩,_⟩:=h
    have h0:Ja t []=0:=by cases t <;> rfl
    have k0:okP t []:=by cases t <;> trivial
    exact ⟨f,t,rfl,rfl,by simp only [Gq,h0]; exact Nat.eq_of_beq_eq_true h1,h2,by simpa [Nat.blt_eq] using h3,h4,k0⟩
  | t :: r,f :: s,o,j+1,h,hj=>by
    simp only [Q0,Bool.and_eq_true] at h
    obtain ⟨f',t',h1,h2,h3,h4⟩:=Pv r s (o+Zg t) j h.2 (by simpa using hj)
    exact ⟨f',t',by simpa using h1,by simpa using h2,by simp only [Gq]; omega,h4⟩
theorem Ao:(fs:List Ty)→(j:Nat)→(x:K1 fs)→(d:Dyn)→Gm fs j x=some d→fs[j]?=some d.τ
  | [],_,_,_,h=>by simp [Gm] at h
  | t :: r,0,x,d,h=>by simp [Gm] at h; subst h; rfl
  | t :: r,n+1,x,d,h=>by simp only [Gm] at h; simpa using Ao r n x.2 d h
theorem ALm {fs:List Ty} {j:Nat} {x:K1 fs} {d:Dyn} (h:getP [j] (.st fs) x=some d):Gm fs j x=some d:=by
  simp only [getP] at h
  split at h
  · rename_i d' hd
    rw [hd]
    have:getP [] d'.τ d'.x=some d':=by
      obtain ⟨τ,y⟩:=d'
      cases τ <;> rfl
    exact this.symm.trans h
  · cases h
theorem Kw {w:World} {b o:Nat} {cs:List Value} (h:w.rangeAt b o cs) (k n:Nat):w.rangeAt b (o+k) (cut cs k n):=fun j v hv=>by
  rw [Qu] at hv
  split at hv
  · have:=h (k+j) v hv
    rw [show o+(k+j)=o+k+j by omega] at this
    exact this
  · cases hv
theorem ADf (cs:Array Value) (o n:Nat):(cs.extract o (o+n))=(cut cs.toList o n).toArray:=by
  apply Array.ext'
  rw [Array.toList_extract]
  simp [cut]
section
variable {P:Program} {o:Oper} {a:Act} {w:World} {B:Nat} {w0:Y8} {A:Nat→Prop} {ρ:Xf} {own:Nat→Option Nat} {h:Nat→Obj} {s:Nat→SV}
theorem Af {τ:Ty} {x:den τ} {ov:Ov} {cs:List Value} (hr:Zj A ρ w τ x ov cs) (ha:G3 τ=false):∃ v,cs=[v]:=by
  have:=Zj.length τ hr
  have h1:Zg τ=1:=by cases τ <;> simp [G3] at ha <;> rfl
  rw [h1] at this
  match cs,this with
  | [v],_=>exact ⟨v,rfl⟩
theorem Pf {τ:Ty} {t:TypeId} {cs:Array Value} {off:Nat} {x:den τ} {ov:Ov} (hd:Xv P τ t=true) (hz:Jn P t (Zg τ)=true)
    (hr:Zj A ρ w τ x ov (cut cs.toList off (Zg τ))):(part t cs off).run P w=.ok (mkV τ (cut cs.toList off (Zg τ))) w:=by
  obtain ⟨d,h1,h2⟩:=Ec hd
  unfold part
  rw [Sem.run_bind,Bf h1 w,Result.andThen_ok,h2]
  cases ha:G3 τ with
  | true =>
    simp only [if_true,Sem.run_bind,J3 hz,Result.andThen_ok,Sem.run_pure,mkV,ha,ADf]
  | false =>
    obtain ⟨v,hv⟩:=Af hr ha
    have h3:(cut cs.toList off (Zg τ))[0]?=some v:=by rw [hv]; rfl
    rw [Qu] at h3
    split at h3
    · simp only [Nat.add_zero,Array.getElem?_toList] at h3
      simp [h3,mkV,ha,hv]
    · cases h3
def Dt (P:Program) (o:Oper) (τ:Ty) (j:Nat) (x:Opd):Bool:=match o.op with
  | .field T y i=>Nat.beq i j && Xv P τ T && (match τ with | .st _=>true | _=>false) && Xn x y
  | _=>false
theorem AFt (st:St B w0 A ρ own w h) (hs:Xh A ρ w s a) {τ:Ty} {j:Nat} {x:Opd} (hc:Dt P o τ j x=true) {y:den τ} {ov:Ov} (hx:evO s x=.dat τ y ov)
    {d:Dyn} (hg:getP [j] τ y=some d):Zv P o a w B w0 A ρ (.dat d.τ d.x (Jq [j] ov)) h:=by
  unfold Dt at hc
  split at hc
  · rename_i T z i ho
    simp only [Bool.and_eq_true] at hc
    obtain ⟨⟨⟨hi,hd⟩,hst⟩,hxz⟩:=hc
    have hi:=Nat.eq_of_beq_eq_true hi
    subst hi
    cases τ with
    | st fs =>
      have k1:=X5 hs hxz
      rw [hx] at k1
      simp only [Zi] at k1
      obtain ⟨cs,k1,k2⟩:=k1
      simp only [mkV,G3] at k2
      have hf:=ALm hg
      have hty:=Ao fs i y d hf
      have hlt:i<fs.length:=(List.getElem?_eq_some_iff.1 hty).1
      simp only [Xv] at hd
      cases hu:P.underlying T with
      | none=>simp [hu] at hd
      | some dd =>
        cases dd with
        | struct l =>
          simp only [hu] at hd
          obtain ⟨f,t,m1,m2,m3,m4,m5,m6,m7⟩:=Pv fs l.toList 0 i hd hlt
          rw [hty] at m2
          cases m2
          have hp:=Zj.getP (.st fs) [i] k1 (by simpa only [okP] using m7) hg
          have m1':l[i]?=some f:=by rw [← Array.getElem?_toList]; exact m1
          have hoff:f.offset=Ja (.st fs) [i]:=by rw [m3,Nat.zero_add]; rfl
          rw [← hoff] at hp
          have hpart:=Pf (P:=P) (cs:=cs.toArray) (off:=f.offset) m6 m4 (by simpa using hp)
          refine Zv.pure st (v':=mkV d.τ (cut cs f.offset (Zg d.τ))) ?_ (by simp only [Zi]; exact ⟨_,hp,rfl⟩)
          simp only [execOp,ho,k2,Instr.field,Sem.run_bind,run_underlying hu w,Result.andThen_ok,m1',asAgg,Sem.run_pure,hpart]
        | _=>simp [hu] at hd
    | _=>simp at hst
  · cases hc
end
end Go.Proofs.YtpemapoblhleoaaGreatDoor.Ghost
namespace Go.Proofs.YtpemapoblhleoaaGreatDoor.Ghost
open Go
section
variable {P:Program} {o:Oper} {a:Act} {w:World} {B:Nat} {w0:Y8} {A:Nat→Prop} {ρ:Xf} {own:Nat→Option Nat} {h:Nat→Obj} {s:Nat→SV}
def Ht (P:Program):List Nat→Nat→List Field→Bool
  | [],_,[]=>true
  | n :: r,o,f :: s=>Nat.beq f.offset o && Jn P f.type n && Nat.blt 0 n && Ht P r (o+n) s
  | _,_,_=>false
def AQc (P:Program):FT→TypeId→Bool
  | .d (.st fs),t=>Xv P (.st fs) t
  | .d _,_=>false
  | .v sizes,t=>(match P.underlying t with | some (.struct l)=>Ht P sizes 0 l.toList | _=>false)
def Pq (P:Program) (o:Oper) (t:FT) (j:Nat) (x:Opd):Bool:=match o.op with
  | .fieldAddr T y i=>Nat.beq i j && AQc P t T && Xn x y
  | _=>false
def U3:List Nat→Nat→Nat
  | [],_=>0
  | _ :: _,0=>0
  | n :: r,j+1=>n+U3 r j
theorem P8:(sizes:List Nat)→(l:List Field)→(o j:Nat)→Ht P sizes o l=true→j<sizes.length →
    ∃ f n,l[j]?=some f∧f.offset=o+U3 sizes j∧Jn P f.type n=true∧0<n
  | [],_,_,_,_,hj=>by simp at hj
  | _ :: _,[],_,_,h,_=>by simp [Ht] at h
  | n :: r,f :: s,o,0,h,_=>by
    simp only [Ht,Bool.and_eq_true] at h
    exact ⟨f,n,rfl,by rw [show U3 (n :: r) 0=0 from rfl,Nat.add_zero]; exact Nat.eq_of_beq_eq_true h.1.1.1,h.1.1.2,by simpa [Nat.blt_eq] using h.1.2⟩
  | n :: r,f :: s,o,j+1,h,hj=>by
    simp only [Ht,Bool.and_eq_true] at h
    obtain ⟨f',n',h1,h2,h3⟩:=P8 r s (o+n) j h.2 (by simpa using hj)
    exact ⟨f',n',by simpa using h1,by simp only [U3]; omega,h3⟩
theorem AEw {T:TypeId} {l:Array Field} {i:Nat} {f:Field} {n b k:Nat} (hu:P.underlying T=some (.struct l)) (hf:l[i]?=some f) (hn:Jn P f.type n=true) (hp:0<n) :
    (Instr.fieldAt T (.pointer (some ⟨b,k,none⟩)) i).run P w=.ok (.pointer (some ⟨b,k+f.offset,none⟩)) w:=by
  have:n≠0:=by omega
  simp only [Instr.fieldAt,Sem.run_bind,run_underlying hu w,Result.andThen_ok,hf,Instr.sureAddr,Sem.run_pure,fieldPlace,J3 hn,this,if_false,Addr.add_mid]
theorem Fm:{a b:List Nat}→X9.natsEq a b=true→a=b
  | [],[],_=>rfl
  | x :: r,y :: s,h=>by
    simp only [X9.natsEq,Bool.and_eq_true] at h
    rw [Nat.eq_of_beq_eq_true h.1,Fm h.2]
theorem Rn:(us:List SV)→(X9.sizesV us).length=us.length
  | []=>rfl
  | _ :: r=>by simp [X9.sizesV,Rn r]
theorem N9:(us:List SV)→(j:Nat)→Gx us j []=U3 (X9.sizesV us) j
  | [],_=>rfl
  | u :: r,0=>by
    have:Wb u []=0:=by cases u <;> rfl
    simp only [Gx,this,X9.sizesV,U3]
  | u :: r,j+1=>by simp only [Gx,X9.sizesV,U3,N9 r j]
theorem N2:(us:List SV)→(j:Nat)→getV.getVL us j []=us[j]?
  | [],_=>by simp [getV.getVL]
  | u :: r,0=>by cases u <;> simp [getV.getVL,getV]
  | u :: r,j+1=>by simp only [getV.getVL,N2 r j]; simp
mutual
theorem Ef:(u:SV)→(p q:Z8)→(x:SV)→getV u p=some x→getV u (p ++ q)=getV x q∧Wb u (p ++ q)=Wb u p+Wb x q
  | u,[],q,x,hg=>by
    have:u=x:=by cases u <;> simpa [getV] using hg
    subst this
    have:Wb u []=0:=by cases u <;> rfl
    exact ⟨rfl,by rw [this,Nat.zero_add]; rfl⟩
  | .agv us,i :: p,q,x,hg=>by
    simp only [getV] at hg
    have:=Lx us i p q x hg
    simpa only [List.cons_append,getV,Wb] using this
  | .dat _ _ _,_ :: _,_,_,hg=>by simp [getV] at hg
  | .ptr _ _,_ :: _,_,_,hg=>by simp [getV] at hg
  | .ref _ _,_ :: _,_,_,hg=>by simp [getV] at hg
  | .refv _,_ :: _,_,_,hg=>by simp [getV] at hg
  | .selfc _ _,_ :: _,_,_,hg=>by simp [getV] at hg
  | .glo _,_ :: _,_,_,hg=>by simp [getV] at hg
  | .elp _ _ _,_ :: _,_,_,hg=>by simp [getV] at hg
  | .clo _ _,_ :: _,_,_,hg=>by simp [getV] at hg
  | .tup _,_ :: _,_,_,hg=>by simp [getV] at hg
  | .slv _,_ :: _,_,_,hg=>by simp [getV] at hg
  | .fmap _ _,_ :: _,_,_,hg=>by simp [getV] at hg
  | .nilfn,_ :: _,_,_,hg=>by simp [getV] at hg
  | .und,_ :: _,_,_,hg=>by simp [getV] at hg
  | .junk,_ :: _,_,_,hg=>by simp [getV] at hg
theorem Lx:(us:List SV)→(i:Nat)→(p q:Z8)→(x:SV)→getV.getVL us i p=some x→getV.getVL us i (p ++ q)=getV x q∧Gx us i (p ++ q)=Gx us i p+Wb x q
  | [],_,_,_,_,hg=>by simp [getV.getVL] at hg
  | u :: r,0,p,q,x,hg=>by
    simp only [getV.getVL] at hg
    simpa only [getV.getVL,Gx] using Ef u p q x hg
  | u :: r,n+1,p,q,x,hg=>by
    simp only [getV.getVL] at hg
    have:=Lx r n p q x hg
    simp only [getV.getVL,Gx]
    exact ⟨this.1,by rw [this.2]; omega⟩
end
theorem Hf {g:Nat} {p:Z8} {v:Value} {sp:Ky} (hv:Zi A ρ w (.ptr g p) v) (hr:ρ g=some sp) (hm:sp.mp=false):sp.ok p∧v=.pointer (some ⟨sp.b,sp.off p,none⟩):=by
  simp only [Zi] at hv
  obtain ⟨s',h1,h2,h3⟩:=hv
  rw [hr] at h1
  cases h1
  rw [hm] at h3
  exact ⟨h2,h3⟩
theorem AF7 {g:Nat} {p:Z8} {sp:Ky} (hr:ρ g=some sp) (hm:sp.mp=false) (hk:sp.ok p):Zi A ρ w (.ptr g p) (.pointer (some ⟨sp.b,sp.off p,none⟩)):=by
  simp only [Zi]
  exact ⟨sp,hr,hk,by rw [hm]⟩
theorem Ba {g i:Nat} {p:Z8} {v:Value} {sp:Ky} (hv:Zi A ρ w (.elp g i p) v) (hr:ρ g=some sp):i<sp.len∧sp.ok p∧v=.pointer (some ⟨sp.b,i * sp.es+sp.off p,none⟩):=by
  simp only [Zi] at hv
  obtain ⟨s',h1,_,h2,h3,h4⟩:=hv
  rw [hr] at h1
  cases h1
  exact ⟨h2,h3,h4⟩
variable (st:St B w0 A ρ own w h) (hs:Xh A ρ w s a)
include st hs
theorem Co {t:FT} {j:Nat} {x:Opd} (hc:Pq P o t j x=true) {R:Type} {K:SV→Option R} {r:R} (hg:X9 h t j (evO s x) K=some r) :
    ∃ v,K v=some r∧Zv P o a w B w0 A ρ v h:=by
  unfold Pq at hc
  split at hc
  case h_2=>cases hc
  rename_i T y i ho
  simp only [Bool.and_eq_true] at hc
  obtain ⟨⟨hi,hT⟩,hxy⟩:=hc
  have hi:=Nat.eq_of_beq_eq_true hi
  subst hi
  have k1:=X5 hs hxy
  have fin:∀ (l:Array Field) (f:Field) (n b k:Nat) (v:SV),P.underlying T=some (.struct l)→l[i]?=some f→Jn P f.type n=true→0<n→a.eval y=.pointer (some ⟨b,k,none⟩) →
      Zi A ρ w v (.pointer (some ⟨b,k+f.offset,none⟩))→Zv P o a w B w0 A ρ v h:=fun l f n b k v h1 h2 h3 h4 h5 h6 =>
    Zv.pure st (by simp only [execOp,ho,h5,Sem.run_bind,AEw h1 h2 h3 h4,Result.andThen_ok,Sem.run_pure]) h6
  unfold X9 at hg
  cases t with
  | d σ =>
    cases σ with
    | st fs =>
      simp only [AQc] at hT
      have hd:=hT
      simp only [Xv] at hT
      cases hu:P.underlying T with
      | none=>simp [hu] at hT
      | some dd =>
        cases dd with
        | struct l =>
          simp only [hu] at hT
          simp only [] at hg
          cases hj:Nat.blt i fs.length with
          | false=>rw [hj] at hg; simp at hg
          | true =>
            rw [hj] at hg
            simp only [cond_true] at hg
            obtain ⟨f,t,m1,m2,m3,m4,m5,m6,m7⟩:=Pv fs l.toList 0 i hT (by simpa [Nat.blt_eq] using hj)
            have m1':l[i]?=some f:=by rw [← Array.getElem?_toList]; exact m1
            have hoff:f.offset=Ja (.st fs) [i]:=by rw [m3,Nat.zero_add]; rfl
            have hok:okP (.st fs) [i]:=by simpa only [okP] using m7
            have box:∀ (g:Nat) (p:Z8) (τ:Ty) (z:den τ) (ov:Ov) (M:Ky→List Value→Prop),evO s x=.ptr g p→W8 A ρ w g τ z ov M →
                X9.fld τ z p (.st fs) (K (.ptr g (p ++ [i])))=some r→∃ v,K v=some r∧Zv P o a w B w0 A ρ v h:=fun g p τ z ov M hx hb hf=>by
              obtain ⟨sp,cs,n1,n2,n3,n4,_,_⟩:=hb
              rw [hx] at k1
              obtain ⟨q1,q2⟩:=Hf k1 n1 n2
              rw [n4] at q1
              unfold X9.fld at hf
              split at hf
              · rename_i d hd'
                split at hf
                · rename_i pl _
                  obtain ⟨dτ,dx⟩:=d
                  have hdt:dτ=.st fs:=pl.down
                  subst hdt
                  have:=Tm τ p [i] z ⟨.st fs,dx⟩ q1 hd' hok
                  refine ⟨_,hf,fin l f _ _ _ _ hu m1' m4 m5 q2 ?_⟩
                  have e:sp.off p+f.offset=sp.off (p ++ [i]):=by rw [n3,this.2,hoff]
                  rw [e]
                  exact AF7 n1 n2 (by rw [n4]; exact this.1)
                · cases hf
              · cases hf
            have arr:∀ (g k:Nat) (p:Z8) (e:Ty) (z:List (den e)) (M:Ky→List Value→Prop),evO s x=.elp g k p→V1 A ρ w g e z M →
                X9.fld e (dft e) p (.st fs) (K (.elp g k (p ++ [i])))=some r→∃ v,K v=some r∧Zv P o a w B w0 A ρ v h:=fun g k p e z M hx hb hf=>by
              obtain ⟨sp,n1,n2,n3,n4,n5,n6,_⟩:=hb
              rw [hx] at k1
              obtain ⟨q0,q1,q2⟩:=Ba k1 n1
              rw [n6] at q1
              unfold X9.fld at hf
              split at hf
              · rename_i d hd'
                split at hf
                · rename_i pl _
                  obtain ⟨dτ,dx⟩:=d
                  have hdt:dτ=.st fs:=pl.down
                  subst hdt
                  have:=Tm e p [i] (dft e) ⟨.st fs,dx⟩ q1 hd' hok
                  refine ⟨_,hf,fin l f _ _ _ _ hu m1' m4 m5 q2 ?_⟩
                  have e':k * sp.es+sp.off p+f.offset=k * sp.es+sp.off (p ++ [i]):=by rw [n5,this.2,hoff]; exact Nat.add_assoc _ _ _
                  rw [e']
                  simp only [Zi]
                  exact ⟨sp,n1,n2,q0,by rw [n6]; exact this.1,rfl⟩
                · cases hf
              · cases hf
            split at hg
            · rename_i g p hx
              have ob:=st.objs g
              split at hg
              · rename_i τ z ov hh; rw [hh] at ob; exact box g p τ z ov _ hx ob hg
              · rename_i τ z ov hh; rw [hh] at ob; exact box g p τ z ov _ hx ob hg
              · cases hg
            · rename_i g k p hx
              have ob:=st.objs g
              split at hg
              · rename_i e z hh; rw [hh] at ob; exact arr g k p e z _ hx ob hg
              · rename_i e z hh; rw [hh] at ob; exact arr g k p e z _ hx ob hg
              · cases hg
            · rename_i τ z hx
              split at hg
              · rename_i pl d _ hd'
                have hτ:τ=.st fs:=pl.down
                subst hτ
                rw [hx] at k1
                simp only [Zi] at k1
                obtain ⟨b,k,cs,q1,q2,q3,q4⟩:=k1
                have hp:=Zj.getP (.st fs) [i] q4 hok hd'
                refine ⟨_,hg,fin l f _ _ _ _ hu m1' m4 m5 q1 ?_⟩
                simp only [Zi]
                refine ⟨b,k+f.offset,_,rfl,q2,?_,Zj.ov d.τ (fun e => ?_) hp⟩
                · rw [hoff]; exact Kw q3 _ _
                · obtain ⟨q,oo⟩:=e
                  rw [Qb]; simp
              · cases hg
            · cases hg
        | _=>simp [hu] at hT
    | _=>simp [AQc] at hT
  | v sizes =>
    simp only [AQc] at hT
    simp only [] at hg
    cases hu:P.underlying T with
    | none=>simp [hu] at hT
    | some dd =>
      cases dd with
      | struct l =>
        simp only [hu] at hT
        have boxv:∀ (g:Nat) (p:Z8) (u:SV) (M:Ky→List Value→Prop),evO s x=.ptr g p→Un A ρ w g u M →
            X9.fldV u p sizes i (K (.ptr g (p ++ [i])))=some r→∃ v,K v=some r∧Zv P o a w B w0 A ρ v h:=fun g p u M hx hb hf=>by
          obtain ⟨sp,v,n1,n2,n3,n4,_⟩:=hb
          rw [hx] at k1
          obtain ⟨q1,q2⟩:=Hf k1 n1 n2
          unfold X9.fldV at hf
          split at hf
          · rename_i us hus
            cases hcc:X9.natsEq (X9.sizesV us) sizes && Nat.blt i sizes.length with
            | false=>rw [hcc] at hf; simp at hf
            | true =>
              rw [hcc] at hf
              simp only [cond_true] at hf
              simp only [Bool.and_eq_true] at hcc
              have he:=Fm hcc.1
              subst he
              obtain ⟨f,n,m1,m2,m3,m4⟩:=P8 _ l.toList 0 i hT (by simpa [Nat.blt_eq] using hcc.2)
              have m1':l[i]?=some f:=by rw [← Array.getElem?_toList]; exact m1
              have happ:=Ef u p [i] (.agv us) hus
              refine ⟨_,hf,fin l f n _ _ _ hu m1' m3 m4 q2 ?_⟩
              have e':sp.off p+f.offset=sp.off (p ++ [i]):=by
                rw [n3,happ.2,m2,Nat.zero_add]; simp only [Wb,N9]
              rw [e']
              refine AF7 n1 n2 ?_
              rw [n4]
              unfold okV
              rw [happ.1]
              simp only [getV,N2]
              have hlt:i<us.length:=by
                have:=hcc.2
                rw [Nat.blt_eq,Rn] at this
                exact this
              exact ⟨us[i],List.getElem?_eq_getElem hlt⟩
          · cases hf
        split at hg
        · rename_i us hx
          split at hg
          · rename_i u hcc hu'
            have he:=Fm hcc
            subst he
            have hlt:i<us.length:=(List.getElem?_eq_some_iff.1 hu').1
            obtain ⟨f,n,m1,m2,m3,m4⟩:=P8 _ l.toList 0 i hT (by rw [Rn]; exact hlt)
            have m1':l[i]?=some f:=by rw [← Array.getElem?_toList]; exact m1
            rw [hx] at k1
            simp only [Zi] at k1
            obtain ⟨b,k,v,q1,q2,q3,vs,rfl,q4,q5⟩:=k1
            obtain ⟨v',w1,w2⟩:=Zq.getV us q4 q5 (i:=i) (p:=[]) (x:=u) (by rw [N2]; exact hu')
            refine ⟨_,hg,fin l f n _ _ _ hu m1' m3 m4 q1 ?_⟩
            simp only [Zi]
            refine ⟨b,k+f.offset,v',rfl,q2,?_,w1⟩
            rw [w2,m2,Nat.zero_add,← N9]
            exact Kw q3 _ _
          · cases hg
        · rename_i g p hx
          have ob:=st.objs g
          split at hg
          · rename_i u hh; rw [hh] at ob; exact boxv g p u _ hx ob hg
          · rename_i u hh; rw [hh] at ob; exact boxv g p u _ hx ob hg
          · cases hg
        · cases hg
      | _=>simp [hu] at hT
end
end Go.Proofs.YtpemapoblhleoaaGreatDoor.Ghost
namespace Go.Proofs.YtpemapoblhleoaaGreatDoor.Ghost
open Go
section
variable {P:Program} {o:Oper} {a:Act} {w:World} {B:Nat} {w0:Y8} {A:Nat→Prop} {ρ:Xf} {own:Nat→Option Nat} {h:Nat→Obj} {s:Nat→SV}
theorem L3 {R:Type} {n:Int} {m:Nat} {K:Nat→Option R} {r:R} (hg:inB n m K=some r):0≤n∧n<(m:Int)∧K n.toNat=some r:=by
  unfold inB at hg
  split at hg
  · rename_i hn; exact ⟨hn.1,hn.2,hg⟩
  · cases hg
def AQm (P:Program):IT→TypeId→Bool
  | .sl e,t=>Xv P (.sl e) t
  | .arr n e,t=>Xv P (.arr n e) t
  | .slv n,t=>(match P.underlying t with | some (.slice e)=>Jn P e n | _=>false)
def Du (P:Program) (o:Oper) (t:IT) (x i:Opd):Bool:=match o.op with
  | .indexAddr T y z=>AQm P t T && Xn x y && Xn i z
  | _=>false
theorem To {T e:TypeId} {sz b k len cap:Nat} {kd:IntKind} {n:Int} (hu:P.underlying T=some (.slice e)) (hz:Jn P e sz=true) (h0:0≤n) (h1:n<(len:Int)) :
    (Instr.indexAt T (.slice (some ⟨b,k,none⟩) len cap) (.int kd n)).run P w=.ok (.pointer (some ⟨b,k+n.toNat * sz,none⟩)) w:=by
  simp only [Instr.indexAt,asIntOf,Sem.run_bind,Sem.run_pure,Result.andThen_ok,run_underlying hu w,h0,h1,and_self,if_true,J3 hz,Addr.add_mid]
theorem Og {T e:TypeId} {sz b k len:Nat} {kd:IntKind} {n:Int} (hu:P.underlying T=some (.array len e)) (hz:Jn P e sz=true) (h0:0≤n) (h1:n<(len:Int)) :
    (Instr.indexAt T (.pointer (some ⟨b,k,none⟩)) (.int kd n)).run P w=.ok (.pointer (some ⟨b,k+n.toNat * sz,none⟩)) w:=by
  simp only [Instr.indexAt,asIntOf,Instr.sureAddr,Sem.run_bind,Sem.run_pure,Result.andThen_ok,run_underlying hu w,h0,h1,and_self,if_true,J3 hz,Addr.add_mid]
theorem Fa {e:Ty} {t:TypeId} (hd:Xv P (.sl e) t=true):∃ e',P.underlying t=some (.slice e')∧Xv P e e'=true∧Jn P e' (Zg e)=true∧0<Zg e:=by
  simp only [Xv] at hd
  split at hd
  · rename_i e' he
    simp only [Bool.and_eq_true] at hd
    exact ⟨e',he,hd.1.1,hd.1.2,by simpa [Nat.blt_eq] using hd.2⟩
  · cases hd
theorem Tf {n:Nat} {e:Ty} {t:TypeId} (hd:Xv P (.arr n e) t=true):∃ e',P.underlying t=some (.array n e')∧Xv P e e'=true∧Jn P e' (Zg e)=true∧0<Zg e:=by
  simp only [Xv] at hd
  split at hd
  · rename_i n' e' he
    simp only [Bool.and_eq_true] at hd
    have:=Nat.eq_of_beq_eq_true hd.1.1.1
    subst this
    exact ⟨e',he,hd.1.1.2,hd.1.2,by simpa [Nat.blt_eq] using hd.2⟩
  · cases hd
theorem Bl {z:Nat}:(us:List SV)→(j:Nat)→(∀ u,u∈us→Jb u=z)→j≤us.length→U3 (X9.sizesV us) j=j * z
  | [],j,_,hj=>by simp at hj; subst hj; simp [X9.sizesV,U3]
  | u :: r,0,_,_=>by simp [X9.sizesV,U3]
  | u :: r,j+1,h,hj=>by
    simp only [X9.sizesV,U3,Bl r j (fun u hu=>h u (by simp [hu])) (by simpa using hj),h u (by simp),Nat.add_mul,Nat.one_mul]
    omega
variable (st:St B w0 A ρ own w h) (hs:Xh A ρ w s a)
include st hs
theorem AFu {t:IT} {x i:Opd} (hc:Du P o t x i=true) {R:Type} {K:SV→Option R} {r:R} (hg:G8 t h (evO s x) (evO s i) K=some r) :
    ∃ v,K v=some r∧Zv P o a w B w0 A ρ v h:=by
  unfold Du at hc
  split at hc
  case h_2=>cases hc
  rename_i T y z ho
  simp only [Bool.and_eq_true] at hc
  obtain ⟨⟨hT,hx⟩,hi⟩:=hc
  have k1:=X5 hs hx
  have k2:=X5 hs hi
  have fin:∀ (v':Value) (v:SV),(Instr.indexAt T (a.eval y) (a.eval z)).run P w=.ok v' w→Zi A ρ w v v'→Zv P o a w B w0 A ρ v h:=fun v' v h1 h2 =>
    Zv.pure st (by simp only [execOp,ho,Sem.run_bind,h1,Result.andThen_ok,Sem.run_pure]) h2
  unfold G8 at hg
  split at hg
  case h_2=>cases hg
  rename_i kd n ovi hin
  rw [hin] at k2
  have k2:=Hr k2
  rw [k2] at fin
  cases t with
  | sl σ =>
    simp only [AQm] at hT
    obtain ⟨e',u1,u2,u3,u4⟩:=Fa hT
    simp only [] at hg
    have own:∀ (e:Ty) (l0:List (den e)) (g:Nat) (e1:Ty) (l:List (den e1)) (M:Ky→List Value→Prop),evO s x=.dat (.sl e) l0 [([],some g)]→V1 A ρ w g e1 l M →
        (match Km e1 σ with | some _=>inB n l.length fun j=>K (.elp g j []) | none=>none)=some r→∃ v,K v=some r∧Zv P o a w B w0 A ρ v h:=fun e l0 g e1 l M hx' hb hf=>by
      obtain ⟨sp,n1,n2,n3,n4,n5,n6,n7,n8,n9⟩:=hb
      rw [hx'] at k1
      simp only [Zi,Zj] at k1
      obtain ⟨cs,⟨ad,len,cap,rfl,q2,_⟩,hv⟩:=k1
      obtain ⟨sp',ad',w1,_,w2,w3⟩:=q2 g (by simp)
      rw [n1] at w1
      cases w1
      cases w2
      split at hf
      · rename_i pl _
        have:=pl.down
        subst this
        obtain ⟨i0,i1,i2⟩:=L3 hf
        rw [n7] at i1
        have hcap:0<sp.cap:=by omega
        have:=w3 hcap
        subst this
        refine ⟨_,i2,fin _ _ (by rw [hv]; exact To u1 u3 i0 i1) ?_⟩
        simp only [Zi]
        refine ⟨sp,n1,n2,by omega,by rw [n6]; cases e1 <;> trivial,?_⟩
        have h0:Ja e1 []=0:=by cases e1 <;> rfl
        rw [n5,h0,n3,Nat.zero_add,Nat.add_zero]
      · cases hf
    split at hg
    · rename_i e l hx'
      rw [hx'] at k1
      simp only [Zi,Zj] at k1
      obtain ⟨cs,⟨ad,len,cap,rfl,_,q3⟩,hv⟩:=k1
      split at hg
      · rename_i pl _
        have:=pl.down
        subst this
        obtain ⟨i0,i1,i2⟩:=L3 hg
        obtain ⟨q4,q5⟩:=q3 (by simp)
        subst q4
        obtain ⟨b,k,ds,rfl,w1,w2,w3,w4⟩:=q5 (by omega)
        refine ⟨_,i2,fin _ _ (by rw [hv]; exact To u1 u3 i0 i1) ?_⟩
        simp only [Zi]
        exact ⟨b,_,_,rfl,w1,Kw w2 _ _,w4 n.toNat (by omega)⟩
      · cases hg
    · rename_i e l0 g hx'
      have ob:=st.objs g
      split at hg
      · rename_i e1 l hh; rw [hh] at ob; exact own e l0 g e1 l _ hx' ob hg
      · rename_i e1 l hh; rw [hh] at ob; exact own e l0 g e1 l _ hx' ob hg
      · cases hg
    · cases hg
  | arr M σ =>
    simp only [AQm] at hT
    obtain ⟨e',u1,u2,u3,u4⟩:=Tf hT
    simp only [] at hg
    have box:∀ (g:Nat) (p:Z8) (τ:Ty) (q:den τ) (ov:Ov) (M':Ky→List Value→Prop),evO s x=.ptr g p→W8 A ρ w g τ q ov M' →
        G8.arrAt τ q p M σ n (fun j=>K (.ptr g (p ++ [j])))=some r→∃ v,K v=some r∧Zv P o a w B w0 A ρ v h:=fun g p τ q ov M' hx' hb hf=>by
      obtain ⟨sp,cs,n1,n2,n3,n4,_,_⟩:=hb
      rw [hx'] at k1
      obtain ⟨q1,q2⟩:=Hf k1 n1 n2
      rw [n4] at q1
      unfold G8.arrAt at hf
      split at hf
      · rename_i N e dx hd'
        split at hf
        · rename_i pl _ hN
          have:=pl.down
          subst this
          have hN:=Nat.eq_of_beq_eq_true hN
          subst hN
          obtain ⟨i0,i1,i2⟩:=L3 hf
          have hlt:n.toNat<N:=by omega
          have h0:Ja e []=0:=by cases e <;> rfl
          have:=Tm τ p [n.toNat] q ⟨.arr N e,dx⟩ q1 hd' ⟨hlt,by cases e <;> trivial⟩
          refine ⟨_,i2,fin _ _ (by rw [q2]; exact Og u1 u3 i0 i1) ?_⟩
          have e':sp.off p+n.toNat * Zg e=sp.off (p ++ [n.toNat]):=by
            rw [n3,this.2]; simp only [Ja,h0,Nat.add_zero]
          rw [e']
          exact AF7 n1 n2 (by rw [n4]; exact this.1)
        · cases hf
      · cases hf
    split at hg
    · rename_i N e l hx'
      split at hg
      · rename_i pl _ hN
        have:=pl.down
        subst this
        have hN:=Nat.eq_of_beq_eq_true hN
        subst hN
        obtain ⟨i0,i1,i2⟩:=L3 hg
        rw [hx'] at k1
        simp only [Zi,Zj] at k1
        obtain ⟨b,k,cs,q1,q2,q3,q4,q5,q6⟩:=k1
        have hlt:n.toNat<N:=by omega
        refine ⟨_,i2,fin _ _ (by rw [q1]; exact Og u1 u3 i0 i1) ?_⟩
        simp only [Zi]
        exact ⟨b,_,_,rfl,q2,Kw q3 _ _,q6 n.toNat hlt⟩
      · cases hg
    · rename_i g p hx'
      have ob:=st.objs g
      split at hg
      · rename_i τ q ov hh; rw [hh] at ob; exact box g p τ q ov _ hx' ob hg
      · rename_i τ q ov hh; rw [hh] at ob; exact box g p τ q ov _ hx' ob hg
      · cases hg
    · cases hg
  | slv sz =>
    simp only [AQm] at hT
    simp only [] at hg
    cases hu:P.underlying T with
    | none=>simp [hu] at hT
    | some dd =>
      cases dd with
      | slice e' =>
        simp only [hu] at hT
        split at hg
        · rename_i us hx'
          split at hg
          · rename_i j _
            split at hg
            · rename_i u hu'
              split at hg
              · rename_i hsz
                have hsz:=Nat.eq_of_beq_eq_true hsz
                rw [hx'] at k1
                simp only [Zi] at k1
                obtain ⟨ad,len,cap,q1,q2,vs,q3,q4,⟨zz,q5⟩,q6⟩:=k1
                have hlt:j<us.length:=(List.getElem?_eq_some_iff.1 hu').1
                obtain ⟨b,k,rfl,w1,w2⟩:=q6 (by omega)
                have hzz:zz=sz:=by rw [← q5 u (List.mem_of_getElem? hu')]; exact hsz
                subst hzz
                obtain ⟨v',v1,v2⟩:=Zq.getV us q3 q4 (i:=j) (p:=[]) (x:=u) (by rw [N2]; exact hu')
                refine ⟨_,hg,fin _ _ (by rw [q1]; exact To (n:=(j:Int)) hu hT (by omega) (by omega)) ?_⟩
                simp only [Zi]
                refine ⟨b,_,v',rfl,w1,?_,v1⟩
                rw [v2,N9,Bl us j q5 (by omega)]
                exact Kw w2 _ _
              · cases hg
            · cases hg
          · cases hg
        · cases hg
      | _=>simp [hu] at hT
end
end Go.Proofs.YtpemapoblhleoaaGreatDoor.Ghost
