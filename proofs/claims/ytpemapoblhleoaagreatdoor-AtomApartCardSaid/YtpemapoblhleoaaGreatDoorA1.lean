/- The ghost semantics, and memory as it has it. Conditions: none. -/
import GoSem.Dispatch
import Derived.Deep.MidRow
import Derived.Below
import Derived.Orders
set_option linter.unusedVariables false
set_option linter.unusedSimpArgs false
set_option linter.unusedSectionVars false
set_option linter.unnecessarySimpa false
namespace Go.Proofs.YtpemapoblhleoaaGreatDoor.Ghost
open Go
inductive Ty where
  | bool | int (k:IntKind) | str
  | sl (e:Ty) | arr (n:Nat) (e:Ty) | st (fs:List Ty)
mutual
@[reducible] def den:Ty→Type
  | .bool=>Bool
  | .int _=>Int
  | .str=>ByteArray
  | .sl e=>List (den e)
  | .arr _ e=>List (den e)
  | .st fs=>K1 fs
@[reducible] def K1:List Ty→Type
  | []=>Unit
  | t :: r=>den t×K1 r
end
mutual
def dft:(t:Ty)→den t
  | .bool=>false
  | .int _=>(0:Int)
  | .str=>(⟨#[]⟩:ByteArray)
  | .sl _=>[]
  | .arr n e=>List.replicate n (dft e)
  | .st fs=>BG4 fs
def BG4:(l:List Ty)→K1 l
  | []=>()
  | t :: r=>(dft t,BG4 r)
end
mutual
def Zg:Ty→Nat
  | .st fs=>Gp fs
  | .arr n e=>n * Zg e
  | _=>1
def Gp:List Ty→Nat
  | []=>0
  | t :: r=>Zg t+Gp r
end
structure Dyn where
  τ:Ty
  x:den τ
abbrev Z3:=List Nat
def Gj:(l:List Ty)→Nat→K1 l→Option Dyn
  | [],_,_=>none
  | t :: _,0,x=>some ⟨t,x.1⟩
  | _ :: r,n+1,x=>Gj r n x.2
def getP:Z3→(τ:Ty)→den τ→Option Dyn
  | [],τ,x=>some ⟨τ,x⟩
  | i :: p,.st fs,x=>match Gj fs i x with
    | some d=>getP p d.τ d.x
    | none=>none
  | i :: p,.arr _ e,x=>getP p e (List.getD x i (dft e))
  | _ :: _,_,_=>none
mutual
def Kj:(a b:Ty)→Option (PLift (a=b))
  | .bool,.bool=>some ⟨rfl⟩
  | .int k,.int k'=>if h:k=k' then some ⟨by rw [h]⟩ else none
  | .str,.str=>some ⟨rfl⟩
  | .sl a,.sl b=>match Kj a b with | some ⟨h⟩=>some ⟨by rw [h]⟩ | none=>none
  | .arr n a,.arr m b=>if hn:n=m then match Kj a b with | some ⟨h⟩=>some ⟨by rw [h,hn]⟩ | none=>none else none
  | .st a,.st b=>match B2 a b with | some ⟨h⟩=>some ⟨by rw [h]⟩ | none=>none
  | _,_=>none
def B2:(a b:List Ty)→Option (PLift (a=b))
  | [],[]=>some ⟨rfl⟩
  | a :: r,b :: s=>match Kj a b with
    | some ⟨h⟩=>match B2 r s with
      | some ⟨h'⟩=>some ⟨by rw [h,h']⟩
      | none=>none
    | none=>none
  | _,_=>none
end
def Jg (a b:Ty) (x:den a):Option (den b):=match Kj a b with
  | some ⟨h⟩=>some (h ▸ x)
  | none=>none
mutual
def Ki:(l:List Ty)→Nat→Z3→K1 l→Dyn→Option (K1 l)
  | [],_,_,_,_=>none
  | t :: _,0,p,x,d=>match setP t p x.1 d with
    | some y=>some (y,x.2)
    | none=>none
  | _ :: r,n+1,p,x,d=>match Ki r n p x.2 d with
    | some y=>some (x.1,y)
    | none=>none
def setP:(t:Ty)→Z3→den t→Dyn→Option (den t)
  | t,[],_,d=>Jg d.τ t d.x
  | .st fs,i :: p,x,d=>Ki fs i p x d
  | .arr _ e,i :: p,x,d=>match setP e p (List.getD x i (dft e)) d with
    | some y=>some (List.set x i y)
    | none=>none
  | _,_ :: _,_,_=>none
end
def Z4:Z3→Z3→Bool
  | [],[]=>true
  | i :: p,j :: q=>Nat.beq i j && Z4 p q
  | _,_=>false
inductive SV where
  | dat (τ:Ty) (x:den τ) (ov:List (Z3×Option Nat))
  | ptr (g:Nat) (p:Z3)
  | ref (τ:Ty) (x:den τ)
  | refv (v:SV)
  | selfc (f:FuncId) (caps:List SV)
  | glo (k:Nat)
  | elp (g i:Nat) (p:Z3)
  | clo (f:FuncId) (caps:List SV)
  | tup (vs:List SV)
  | slv (vs:List SV)
  | fmap (ks:List Int) (vs:List SV)
  | agv (vs:List SV)
  | nilfn
  | und
  | junk
inductive Obj where
  | box (τ:Ty) (x:den τ) (ov:List (Z3×Option Nat))
  | boxv (v:SV)
  | fbox (τ:Ty) (x:den τ) (ov:List (Z3×Option Nat))
  | fboxv (v:SV)
  | arr (e:Ty) (l:List (den e))
  | frz (e:Ty) (l:List (den e))
  | map (k v:Ty) (l:List (den k×den v))
  | hid
  | dead
  | none
abbrev Y5:=List Obj
abbrev Xm:=List (Nat×SV)
def Xo:Y5→Nat→Obj
  | [],_=>.none
  | o :: _,0=>o
  | _ :: r,n+1=>Xo r n
def Rn:Y5→Nat→Obj→Y5
  | [],0,o=>[o]
  | [],n+1,o=>.none :: Rn [] n o
  | _ :: r,0,o=>o :: r
  | x :: r,n+1,o=>x :: Rn r n o
def Xx:Xm→Nat→SV
  | [],_=>.junk
  | (i,v) :: r,j=>match Nat.beq i j with | true=>v | false=>Xx r j
def La:Xm→Nat→SV→Xm
  | [],j,x=>[(j,x)]
  | (i,v) :: r,j,x=>match Nat.beq i j with | true=>(i,x) :: r | false=>(i,v) :: La r j x
def F1 (s:Xm):Option Nat→SV→Xm
  | none,_=>s
  | some d,v=>La s d v
def Id (k:List Nat):Xm→Xm
  | []=>[]
  | (i,v) :: r=>match k.any (Nat.beq i) with | true=>Id k r | false=>(i,v) :: Id k r
def Hs:Z3→Z3→Option Z3
  | [],q=>some q
  | i :: p,j :: q=>match Nat.beq i j with | true=>Hs p q | false=>none
  | _ :: _,[]=>none
def Jm (p:Z3):List (Z3×Option Nat)→List (Z3×Option Nat)
  | []=>[]
  | (q,g) :: r=>match Hs p q with | some q'=>(q',g) :: Jm p r | none=>Jm p r
def Py (p:Z3):List (Z3×Option Nat)→List (Z3×Option Nat)
  | []=>[]
  | (q,g) :: r=>match Hs p q with | some _=>Py p r | none=>(q,g) :: Py p r
def Et (p:Z3):List (Z3×Option Nat)→List (Z3×Option Nat)
  | []=>[]
  | (q,g) :: r=>(p ++ q,g) :: Et p r
def AL7:Z3→Z3→Bool
  | [],[]=>false
  | [],_ :: _=>true
  | _ :: _,[]=>false
  | i :: p,j :: q=>Nat.blt i j || Nat.beq i j && AL7 p q
def AEj (e:Z3×Option Nat):List (Z3×Option Nat)→List (Z3×Option Nat)
  | []=>[e]
  | x :: r=>match AL7 e.1 x.1 with | true=>e :: x :: r | false=>x :: AEj e r
def N9:List (Z3×Option Nat)→List (Z3×Option Nat)→List (Z3×Option Nat)
  | [],ov=>ov
  | e :: r,ov=>N9 r (AEj e ov)
def getV:SV→Z3→Option SV
  | v,[]=>some v
  | .agv vs,i :: p=>getVL vs i p
  | _,_ :: _=>none
where getVL:List SV→Nat→Z3→Option SV
  | [],_,_=>none
  | v :: _,0,p=>getV v p
  | _ :: r,n+1,p=>getVL r n p
def resolve (h:Nat→Obj) (τ:Ty) (x:den τ):List (Z3×Option Nat)→Option (den τ)
  | []=>some x
  | (q,some g) :: r=>match h g with
    | .arr e l=>match setP τ q x ⟨.sl e,l⟩ with
      | some y=>resolve h τ y r
      | none=>none
    | .frz e l=>match setP τ q x ⟨.sl e,l⟩ with
      | some y=>resolve h τ y r
      | none=>none
    | _=>none
  | (_,none) :: _=>none
def L2:den (.arr 11 .str):=[(⟨#[]⟩:ByteArray),(⟨#[109,111,118,101]⟩:ByteArray),(⟨#[112,117,115,104]⟩:ByteArray),(⟨#[103,101,116]⟩:ByteArray),(⟨#[100,114,111,112]⟩:ByteArray),(⟨#[112,117,116]⟩:ByteArray),(⟨#[116,97,107,101]⟩:ByteArray),(⟨#[103,105,118,101]⟩:ByteArray),(⟨#[116,114,97,100,101]⟩:ByteArray),(⟨#[108,111,111,107]⟩:ByteArray),(⟨#[111,119,110]⟩:ByteArray)]
def L3:den (.arr 4 .str):=[(⟨#[110,111,114,116,104]⟩:ByteArray),(⟨#[101,97,115,116]⟩:ByteArray),(⟨#[115,111,117,116,104]⟩:ByteArray),(⟨#[119,101,115,116]⟩:ByteArray)]
def Rz:Nat→Option Dyn:=fun k=>match k with
  | 0=>some ⟨(.arr 11 .str),L2⟩
  | 1=>some ⟨(.arr 4 .str),L3⟩
  | _=>none
def AFl {R:Type} (o:Option Dyn) (M:Nat) (σ:Ty) (K:(l:List (den σ))→Option R):Option R:=match o with
  | some ⟨.arr N e,l⟩=>(match Kj e σ,Nat.beq N M with | some ⟨h⟩,true=>K (h ▸ l) | _,_=>none)
  | _=>none
inductive Opd where
  | t (i:Nat)
  | g (k:Nat)
  | c (τ:Ty) (x:den τ)
  | f (f:FuncId)
  | nf
def evO (s:Nat→SV):Opd→SV
  | .t i=>s i
  | .g k=>.glo k
  | .c τ x=>.dat τ x []
  | .f f=>.clo f []
  | .nf=>.nilfn
inductive Sh where
  | d (τ:Ty)
  | ref (τ:Ty)
  | refv (s:Sh)
  | selfc (f:FuncId) (l:List Sh)
  | clo (f:FuncId) (l:List Sh)
  | nilfn
  | agv (l:List Sh)
  | slv (l:List Sh)
  | fmap (ks:List Int) (l:List Sh)
mutual
@[reducible] def dSh:Sh→Type
  | .d τ=>den τ
  | .ref τ=>den τ
  | .refv s=>dSh s
  | .selfc _ l=>Z8 l
  | .clo _ l=>Z8 l
  | .nilfn=>Unit
  | .agv l=>Z8 l
  | .slv l=>Z8 l
  | .fmap _ l=>Z8 l
@[reducible] def Z8:List Sh→Type
  | []=>Unit
  | s :: r=>dSh s×Z8 r
end
mutual
def inj:(s:Sh)→dSh s→SV
  | .d τ,x=>.dat τ x []
  | .ref τ,x=>.ref τ x
  | .refv s,x=>.refv (inj s x)
  | .selfc f l,x=>.selfc f (Kd l x)
  | .clo f l,x=>.clo f (Kd l x)
  | .nilfn,_=>.nilfn
  | .agv l,x=>.agv (Kd l x)
  | .slv l,x=>.slv (Kd l x)
  | .fmap ks l,x=>.fmap ks (Kd l x)
def Kd:(l:List Sh)→Z8 l→List SV
  | [],_=>[]
  | s :: r,x=>inj s x.1 :: Kd r x.2
end
def AAd:List Int→List Int→Bool
  | [],[]=>true
  | a :: r,b :: s=>(a == b) && AAd r s
  | _,_=>false
mutual
def prj:(s:Sh)→SV→Option (dSh s)
  | .d τ,.dat σ x []=>Jg σ τ x
  | .ref τ,.ref σ x=>Jg σ τ x
  | .refv s,.refv v=>prj s v
  | .selfc f l,.selfc g vs=>match Nat.beq f g with | true=>R8 l vs | false=>none
  | .clo f l,.clo g vs=>match Nat.beq f g with | true=>R8 l vs | false=>none
  | .nilfn,.nilfn=>some ()
  | .agv l,.agv vs=>R8 l vs
  | .slv l,.slv vs=>R8 l vs
  | .fmap ks l,.fmap ks' vs=>match AAd ks ks' with | true=>R8 l vs | false=>none
  | _,_=>none
def R8:(l:List Sh)→List SV→Option (Z8 l)
  | [],[]=>some ()
  | s :: r,v :: vs=>match prj s v with
    | some x=>match R8 r vs with
      | some y=>some (x,y)
      | none=>none
    | none=>none
  | _,_=>none
end
inductive LT where
  | d (τ:Ty)
  | v (agg:Bool) (n:Nat)
inductive FT where
  | d (τ:Ty)
  | v (sizes:List Nat)
inductive IT where
  | sl (e:Ty)
  | arr (n:Nat) (e:Ty)
  | slv (n:Nat)
inductive GOp where
  | move (x:Opd)
  | mknil (k:Nat) (e:Ty)
  | pick (c a b:Opd)
  | newbox (k:Nat) (τ:Ty) (nils:List (Z3×Nat))
  | newboxv (k:Nat) (z:SV)
  | box (k:Nat) (x:Opd)
  | load (t:LT) (a:Opd)
  | store (t:LT) (a v:Opd)
  | bin (op:BinOp) (x y:Opd)
  | eqs (τ:Ty) (neg:Bool) (x y:Opd)
  | not (x:Opd)
  | neg (x:Opd)
  | conv (k:IntKind) (x:Opd)
  | fieldAddr (t:FT) (j:Nat) (a:Opd)
  | field (τ:Ty) (j:Nat) (a:Opd)
  | index (t:IT) (x i:Opd)
  | len (x:Opd)
  | lens (x:Opd)
  | slicearr (n:Nat) (e:Ty) (x:Opd)
  | max (xs:List Opd)
  | min (xs:List Opd)
  | build (τ:Ty) (parts:List (Nat×Opd)) (nils:List (Z3×Nat))
  | buildv (sizes:List Nat) (parts:List Opd)
  | slice (k:Nat) (e:Ty) (parts:List Opd)
  | slicev (size:Nat) (parts:List Opd)
  | make (k:Nat) (e:Ty) (n:Opd)
  | append (k:Nat) (e:Ty) (x y:Opd)
  | extract (x:Opd) (i:Nat)
  | func (f:FuncId) (caps:List Opd)
  | mkmap (k:Nat) (κ ν:Ty)
  | lookup (κ ν:Ty) (m i:Opd)
  | lookv (m i:Opd) (ok:Bool)
  | slx (e:Ty) (x:Opd) (lo hi:Option Opd)
  | mapset (κ ν:Ty) (m i v:Opd)
  | mapent (κ ν:Ty) (m i:Opd)
  | mapst (κ ν:Ty) (m e v:Opd)
  | call (f:Opd) (args:List Opd) (res:List Sh) (keep:List ((Nat×Z3)×Nat)) (opt:Bool)
  | fail
abbrev Eff:=List (Nat×Obj)
def Pg (h:Y5):Eff→Y5
  | []=>h
  | (g,o) :: r=>Pg (Rn h g o) r
def ACs {α:Type} (f:α→α→Bool):List α→List α→Bool
  | x :: r,y :: r'=>f x y && ACs f r r'
  | _,_=>true
mutual
def eqT:(t:Ty)→den t→den t→Bool
  | .bool,x,y=>x == y
  | .int _,x,y=>x == y
  | .str,x,y=>x == y
  | .sl _,_,_=>false
  | .arr _ e,x,y=>ACs (eqT e) x y
  | .st fs,x,y=>ABs fs x y
def ABs:(l:List Ty)→K1 l→K1 l→Bool
  | [],_,_=>true
  | t :: r,x,y=>eqT t x.1 y.1 && ABs r x.2 y.2
end
mutual
def BG3:Ty→Bool
  | .sl _=>false
  | .arr _ e=>BG3 e
  | .st fs=>AQ6 fs
  | _=>true
def AQ6:List Ty→Bool
  | []=>true
  | t :: r=>BG3 t && AQ6 r
end
section
variable {R:Type}
def Dx (op:BinOp) (k:IntKind) (x y:Int) (K:SV→Option R):Option R :=
  match op with
  | .add=>K (.dat (.int k) (k.wrap (x+y)) [])
  | .sub=>K (.dat (.int k) (k.wrap (x - y)) [])
  | .mul=>K (.dat (.int k) (k.wrap (x * y)) [])
  | .rem=>if y=0 then none else K (.dat (.int k) (Int.tmod x y) [])
  | .quo=>if y=0 then none else K (.dat (.int k) (k.wrap (Int.tdiv x y)) [])
  | .eql=>K (.dat .bool (decide (x=y)) [])
  | .neq=>K (.dat .bool (!decide (x=y)) [])
  | .lss=>K (.dat .bool (decide (x<y)) [])
  | .leq=>K (.dat .bool (decide (x≤y)) [])
  | .gtr=>K (.dat .bool (decide (y<x)) [])
  | .geq=>K (.dat .bool (decide (y≤x)) [])
  | _=>none
def AHq (op:BinOp) (a b:SV) (K:SV→Option R):Option R :=
  match a,b with
  | .dat (.int k) x _,.dat (.int k') y _=>if k=k' then Dx op k x y K else none
  | _,_=>none
def AK5 (τ:Ty) (neg:Bool) (a b:SV) (K:SV→Option R):Option R :=
  match a,b with
  | .dat σ x [],.dat ρ y []=>match Jg σ τ x,Jg ρ τ y,BG3 τ with
    | some x,some y,true=>K (.dat .bool (match neg with | true => !(eqT τ x y) | false=>eqT τ x y) [])
    | _,_,_=>none
  | _,_=>none
def F7 (τ:Ty) (x:den τ) (ov:List (Z3×Option Nat)) (p:Z3) (K:SV→Option R):Option R :=
  match getP p τ x with
  | some d=>K (.dat d.τ d.x (Jm p ov))
  | none=>none
mutual
def Q8:SV→Nat
  | .dat τ _ _=>Zg τ
  | .agv vs=>K5 vs
  | _=>1
def K5:List SV→Nat
  | []=>0
  | v :: r=>Q8 v+K5 r
end
def H7 (n:Nat):SV→Bool
  | .junk=>false
  | .und=>false
  | .tup _=>false
  | v=>Nat.beq (Q8 v) n
def Tq:List Nat→List SV→Bool
  | [],[]=>true
  | n :: r,v :: s=>H7 n v && Tq r s
  | _,_=>false
def Bx (n:Nat):List SV→Bool
  | []=>true
  | v :: s=>H7 n v && Bx n s
def okL:LT→SV→Bool
  | .d τ,.dat σ _ _=>(match Kj σ τ with | some _=>true | none=>false)
  | .v true n,.agv vs=>Nat.beq (K5 vs) n
  | .v false n,.clo _ _=>Nat.beq n 1
  | .v false n,.nilfn=>Nat.beq n 1
  | _,_=>false
def AAh (ok:Bool) (v:SV) (b:Bool):SV:=match ok with | true=>.tup [v,.dat .bool b []] | false=>v
def Wf (n:Int):List Int→List SV→(SV→Bool→Option R)→Option R
  | k :: ks,v :: vs,K=>bif decide (n=k) then K v true else Wf n ks vs K
  | _,_,K=>K .nilfn false
def Lm (s:Nat→SV):Option Opd→Int→Option Int
  | none,d=>some d
  | some x,_=>match evO s x with | .dat (.int .i64) n _=>some n | _=>none
def Ii (h:Nat→Obj) (a:SV) (K:SV→Option R):Option R :=
  match a with
  | .ref τ x=>K (.dat τ x [])
  | .refv v=>K v
  | .selfc f vs=>K (.clo f (.selfc f vs :: vs))
  | .glo k=>match Rz k with | some d=>K (.dat d.τ d.x []) | none=>none
  | .ptr g p=>match h g with
    | .box τ x ov=>F7 τ x ov p K
    | .fbox τ x ov=>F7 τ x ov p K
    | .boxv v=>(match getV v p with | some u=>K u | none=>none)
    | .fboxv v=>(match getV v p with | some u=>K u | none=>none)
    | _=>none
  | .elp g i p=>match h g with
    | .arr e l=>F7 e (List.getD l i (dft e)) [] p K
    | .frz e l=>F7 e (List.getD l i (dft e)) [] p K
    | _=>none
  | _=>none
def Ij (t:LT) (h:Nat→Obj) (a:SV) (K:SV→Option R):Option R :=
  Ii h a fun v=>match okL t v with | true=>K v | false=>none
mutual
def Iq:SV→SV→Bool
  | .agv vs,.agv us=>Ir vs us
  | .dat τ _ [],.dat σ _ []=>(match Kj τ σ with | some _=>true | none=>false)
  | .nilfn,.nilfn=>true
  | .nilfn,.clo _ _=>true
  | .clo _ _,.nilfn=>true
  | .clo _ _,.clo _ _=>true
  | _,_=>false
def Ir:List SV→List SV→Bool
  | [],[]=>true
  | v :: r,u :: s=>Iq v u && Ir r s
  | _,_=>false
end
mutual
def B5:SV→Bool
  | .nilfn=>true
  | .agv vs=>ACl vs
  | .dat (.int _) x []=>decide (x=(0:Int))
  | .dat .bool x [] => !x
  | _=>false
def ACl:List SV→Bool
  | []=>true
  | v :: r=>B5 v && ACl r
end
def P5 (h:Nat→Obj) (a v:SV) (K:Eff→Option R):Option R :=
  match a with
  | .ptr g p=>match h g with
    | .box τ x ov=>(match v with
      | .dat σ y ov'=>match setP τ p x ⟨σ,y⟩ with
        | some x'=>K [(g,.box τ x' (N9 (Et p ov') (Py p ov)))]
        | none=>none
      | _=>none)
    | .boxv u=>(match p,Iq u v with | [],true=>K [(g,.boxv v)] | _,_=>none)
    | _=>none
  | .elp g i p=>match h g with
    | .arr e l=>(match v with
      | .dat σ y []=>match setP e p (List.getD l i (dft e)) ⟨σ,y⟩ with
        | some y'=>K [(g,.arr e (List.set l i y'))]
        | none=>none
      | _=>none)
    | _=>none
  | _=>none
def inB (n:Int) (m:Nat) (K:Nat→Option R):Option R:=if 0≤n∧n<(m:Int) then K n.toNat else none
def X9 (h:Nat→Obj) (t:FT) (j:Nat) (a:SV) (K:SV→Option R):Option R :=
  match t with
  | .d σ=>(match σ with
    | .st fs=>bif Nat.blt j fs.length then (match a with
      | .ptr g p=>(match h g with
        | .box τ x _=>fld τ x p σ (K (.ptr g (p ++ [j])))
        | .fbox τ x _=>fld τ x p σ (K (.ptr g (p ++ [j])))
        | _=>none)
      | .elp g i p=>(match h g with
        | .arr e _=>fld e (dft e) p σ (K (.elp g i (p ++ [j])))
        | .frz e _=>fld e (dft e) p σ (K (.elp g i (p ++ [j])))
        | _=>none)
      | .ref τ x=>(match Kj τ σ,getP [j] τ x with | some _,some d=>K (.ref d.τ d.x) | _,_=>none)
      | _=>none) else none
    | _=>none)
  | .v sizes=>(match a with
    | .refv (.agv vs)=>(match natsEq (sizesV vs) sizes,vs[j]? with | true,some v=>K (.refv v) | _,_=>none)
    | .ptr g p=>(match h g with
      | .boxv u=>fldV u p sizes j (K (.ptr g (p ++ [j])))
      | .fboxv u=>fldV u p sizes j (K (.ptr g (p ++ [j])))
      | _=>none)
    | _=>none)
where
  fld (τ:Ty) (x:den τ) (p:Z3) (σ:Ty) (r:Option R):Option R:=match getP p τ x with
    | some d=>(match Kj d.τ σ with | some _=>r | none=>none)
    | none=>none
  sizesV:List SV→List Nat
    | []=>[]
    | v :: r=>Q8 v :: sizesV r
  natsEq:List Nat→List Nat→Bool
    | [],[]=>true
    | a :: r,b :: s=>Nat.beq a b && natsEq r s
    | _,_=>false
  fldV (u:SV) (p:Z3) (sizes:List Nat) (j:Nat) (r:Option R):Option R:=match getV u p with
    | some (.agv vs)=>bif natsEq (sizesV vs) sizes && Nat.blt j sizes.length then r else none
    | _=>none
def G6 (t:IT) (h:Nat→Obj) (x i:SV) (K:SV→Option R):Option R :=
  match i with
  | .dat (.int _) n _=>(match t with
    | .sl σ=>(match x with
      | .dat (.sl e) l []=>(match Kj e σ with | some _=>inB n (List.length l) fun j=>K (.ref e (List.getD l j (dft e))) | none=>none)
      | .dat (.sl _) _ [([],some g)]=>(match h g with
        | .arr e l=>(match Kj e σ with | some _=>inB n l.length fun j=>K (.elp g j []) | none=>none)
        | .frz e l=>(match Kj e σ with | some _=>inB n l.length fun j=>K (.elp g j []) | none=>none)
        | _=>none)
      | _=>none)
    | .arr M σ=>(match x with
      | .ref (.arr N e) l=>(match Kj e σ,Nat.beq N M with | some _,true=>inB n N fun j=>K (.ref e (List.getD l j (dft e))) | _,_=>none)
      | .ptr g p=>(match h g with
        | .box τ x _=>arrAt τ x p M σ n fun j=>K (.ptr g (p ++ [j]))
        | .fbox τ x _=>arrAt τ x p M σ n fun j=>K (.ptr g (p ++ [j]))
        | _=>none)
      | _=>none)
    | .slv sz=>(match x with
      | .slv vs=>(match n with
        | .ofNat j=>(match vs[j]? with | some v=>(match Nat.beq (Q8 v) sz with | true=>K (.refv v) | false=>none) | none=>none)
        | _=>none)
      | _=>none))
  | _=>none
where
  arrAt (τ:Ty) (x:den τ) (p:Z3) (M:Nat) (σ:Ty) (n:Int) (K:Nat→Option R):Option R:=match getP p τ x with
    | some ⟨.arr N e,_⟩=>(match Kj e σ,Nat.beq N M with | some _,true=>inB n N K | _,_=>none)
    | _=>none
def AB3 (h:Nat→Obj) (x:SV) (K:SV→Option R):Option R :=
  match x with
  | .dat (.sl _) l []=>K (.dat (.int .i64) ((List.length l:Nat):Int) [])
  | .dat (.sl _) _ [([],some g)]=>(match h g with
    | .arr _ l=>K (.dat (.int .i64) ((List.length l:Nat):Int) [])
    | .frz _ l=>K (.dat (.int .i64) ((List.length l:Nat):Int) [])
    | _=>none)
  | .slv vs=>K (.dat (.int .i64) ((List.length vs:Nat):Int) [])
  | _=>none
def Wz (τ:Ty) (s:Nat→SV):(x:den τ)→(ov:List (Z3×Option Nat))→List (Nat×Opd)→(SV→Option R)→Option R
  | x,ov,[],K=>K (.dat τ x ov)
  | x,ov,(j,o) :: r,K=>match evO s o with
    | .dat σ y ov'=>match setP τ [j] x ⟨σ,y⟩ with
      | some x'=>Wz τ s x' (Py [j] ov ++ Et [j] ov') r K
      | none=>none
    | _=>none
def T7 (τ:Ty) (x:den τ) (h:Nat→Obj):List (Z3×Nat)→Option (List (Z3×Option Nat)×Eff)
  | []=>some ([],[])
  | (p,k) :: r=>match h k,getP p τ x,r.any (fun q=>Nat.beq q.2 k || Z4 q.1 p),T7 τ x h r with
    | .none,some ⟨.sl e,_⟩,false,some (ov,es)=>some ((p,some k) :: ov,(k,.arr e []) :: es)
    | _,_,_,_=>none
def Wb (e:Ty) (s:Nat→SV):List Opd→Option (List (den e))
  | []=>some []
  | o :: r=>match evO s o with
    | .dat σ y []=>match Jg σ e y with
      | some z=>match Wb e s r with
        | some zs=>some (z :: zs)
        | none=>none
      | none=>none
    | _=>none
end
mutual
def noSl:Ty→Bool
  | .sl _=>false
  | .arr _ e=>noSl e
  | .st fs=>AG7 fs
  | _=>true
def AG7:List Ty→Bool
  | []=>true
  | t :: r=>noSl t && AG7 r
end
def Lf:List Sh→Bool
  | []=>true
  | .d τ :: r=>noSl τ && Lf r
  | _ :: _=>false
def R7:List (Z3×Option Nat)→List Nat
  | []=>[]
  | (_,some g) :: r=>g :: R7 r
  | (_,none) :: r=>R7 r
def Bw (g:Nat):Z3→SV→Option (FuncId×List SV)
  | [],.clo f (.ptr g' [] :: caps)=>match Nat.beq g g' with | true=>some (f,caps) | false=>none
  | _,_=>none
mutual
def Y0 (h:Nat→Obj):Nat→SV→Option (SV×List Nat)
  | 0,_=>none
  | n+1,v=>match v with
    | .dat τ x ov=>match resolve h τ x ov with
      | some y=>some (.dat τ y [],R7 ov)
      | none=>none
    | .ptr g p=>match h g with
      | .box τ x ov=>match resolve h τ x ov with
        | some y=>match getP p τ y with
          | some d=>some (.ref d.τ d.x,g :: R7 ov)
          | none=>none
        | none=>none
      | .fbox τ x ov=>match resolve h τ x ov with
        | some y=>match getP p τ y with
          | some d=>some (.ref d.τ d.x,g :: R7 ov)
          | none=>none
        | none=>none
      | .boxv v=>match Bw g p v with
        | some (f,caps)=>match U0 h n caps with
          | some (us,ids)=>some (.selfc f us,g :: ids)
          | none=>none
        | none=>match getV v p with
          | some v=>match Y0 h n v with
            | some (u,ids)=>some (.refv u,g :: ids)
            | none=>none
          | none=>none
      | .fboxv v=>match Bw g p v with
        | some (f,caps)=>match U0 h n caps with
          | some (us,ids)=>some (.selfc f us,g :: ids)
          | none=>none
        | none=>match getV v p with
          | some v=>match Y0 h n v with
            | some (u,ids)=>some (.refv u,g :: ids)
            | none=>none
          | none=>none
      | _=>none
    | .ref τ x=>some (.ref τ x,[])
    | .refv v=>match Y0 h n v with | some (u,ids)=>some (.refv u,ids) | none=>none
    | .selfc f caps=>match U0 h n caps with | some (us,ids)=>some (.selfc f us,ids) | none=>none
    | .clo f caps=>match U0 h n caps with | some (us,ids)=>some (.clo f us,ids) | none=>none
    | .agv vs=>match U0 h n vs with | some (us,ids)=>some (.agv us,ids) | none=>none
    | .slv vs=>match U0 h n vs with | some (us,ids)=>some (.slv us,ids) | none=>none
    | .nilfn=>some (.nilfn,[])
    | _=>none
def U0 (h:Nat→Obj):Nat→List SV→Option (List SV×List Nat)
  | 0,_=>none
  | _+1,[]=>some ([],[])
  | n+1,v :: vs=>match Y0 h n v with
    | some (u,ids)=>match U0 h n vs with
      | some (us,ids')=>some (u :: us,ids ++ ids')
      | none=>none
    | none=>none
end
def Y7 (h:Nat→Obj):List Nat→Option Eff
  | []=>some []
  | g :: r=>match h g with
    | .arr e l=>match Y7 h r with | some es=>some ((g,.frz e l) :: es) | none=>none
    | .frz _ _=>Y7 h r
    | .box τ x ov=>match Y7 h r with | some es=>some ((g,.fbox τ x ov) :: es) | none=>none
    | .boxv v=>match Y7 h r with | some es=>some ((g,.fboxv v) :: es) | none=>none
    | .fbox .. => Y7 h r
    | .fboxv _=>Y7 h r
    | _=>none
abbrev Zz:=List (Nat×Z3)
def Zt (fr:Zz) (k:Nat×Z3):Bool:=fr.any fun f=>Nat.beq f.1 k.1 && Z4 f.2 k.2
def Zv (fr:Zz):List ((Nat×Z3)×Nat)→Bool
  | []=>true
  | (k,_) :: r=>Zt fr k && !(r.any fun q=>Nat.beq q.1.1 k.1 && Z4 q.1.2 k.2) && Zv fr r
def Te:List SV→List ((Nat×Z3)×Nat)→Option (List SV×Eff)
  | vs,[]=>some (vs,[])
  | vs,((i,p),k) :: r=>match vs[i]? with
    | some (.dat τ x ov)=>match getP p τ x with
      | some ⟨.sl e,l⟩=>match setP τ p x ⟨.sl e,[]⟩ with
        | some x'=>match Te (vs.set i (.dat τ x' (ov ++ [(p,some k)]))) r with
          | some (us,es)=>some (us,(k,.arr e l) :: es)
          | none=>none
        | none=>none
      | _=>none
    | _=>none
section
variable {R:Type}
def Oq:List SV→SV
  | [v]=>v
  | vs=>.tup vs
def Yn (κ ν:Ty) (i:den κ):List (den κ×den ν)→Option (den ν)
  | []=>none
  | (k,v) :: r=>if eqT κ i k then some v else Yn κ ν i r
def Gl (κ ν:Ty) (i:den κ) (x:den ν):List (den κ×den ν)→List (den κ×den ν)
  | []=>[(i,x)]
  | (k,v) :: r=>if eqT κ i k then (i,x) :: r else (k,v) :: Gl κ ν i x r
def Er (κ ν:Ty) (i:den κ):List (den κ×den ν)→Nat
  | []=>0
  | (k,_) :: r=>if eqT κ i k then 0 else Er κ ν i r+1
def Rk (κ ν:Ty) (i:den κ) (l:List (den κ×den ν)):List (den κ×den ν):=match Yn κ ν i l with
  | some _=>l
  | none=>l ++ [(i,dft ν)]
def Nc (κ ν:Ty):Nat→den ν→List (den κ×den ν)→List (den κ×den ν)
  | _,_,[]=>[]
  | 0,x,(k,_) :: r=>(k,x) :: r
  | n+1,x,e :: r=>e :: Nc κ ν n x r
def Wd (s:Nat→SV):List Opd→Option (IntKind×List Int)
  | []=>none
  | [o]=>match evO s o with | .dat (.int k) n _=>some (k,[n]) | _=>none
  | o :: r=>match evO s o with
    | .dat (.int k) n _=>match Wd s r with
      | some (k',l)=>if k=k' then some (k,n :: l) else none
      | none=>none
    | _=>none
abbrev Calls:=FuncId→List SV→(res:List Sh)→Option (Z8 res×Zz)
def Ha (h:Nat→Obj):List ((Nat×Z3)×Nat)→Bool
  | []=>true
  | (_,k) :: r=>(match h k with | .none=>true | _=>false) && Ha h r && !(r.any fun q=>Nat.beq q.2 k)
def Mj (h:Nat→Obj) (ids:List Nat) (res:List Sh) (x:Z8 res) (keep:List ((Nat×Z3)×Nat)) (K:SV→Eff→Option R):Option R :=
  match (match Lf res,keep with | true,[]=>some [] | _,_=>Y7 h ids) with
  | some es=>(match Te (Kd res x) keep with
    | some (vs,es')=>K (Oq vs) (es ++ es')
    | none=>none)
  | none=>none
def Ru (cf:Calls) (h:Nat→Obj) (f:SV) (args:List SV) (res:List Sh) (keep:List ((Nat×Z3)×Nat)) (opt:Bool) (K:SV→Eff→Option R):Option R :=
  match f with
  | .clo fid caps=>match U0 h 60 (args ++ caps) with
    | some (as,ids)=>(cf fid as res).bind fun r =>
        bif Zv r.2 keep then (bif Ha h keep then Mj h ids res r.1 keep K else none)
        else (match opt with | true=>Mj h ids res r.1 [] K | false=>none)
    | none=>none
  | .refv _=>none
  | _=>none
def gop (cf:Calls) (s:Nat→SV) (h:Nat→Obj) (o:GOp) (K:SV→Eff→Option R):Option R :=
  match o with
  | .move x=>K (evO s x) []
  | .mknil k e=>match h k with
    | .none=>K (.dat (.sl e) [] [([],some k)]) [(k,.arr e [])]
    | _=>none
  | .pick c a b=>match evO s c with
    | .dat .bool t _=>(match evO s a,evO s b with
      | .dat .bool x _,.dat .bool y _=>K (.dat .bool (bif t then x else y) []) []
      | .dat .bool x _,.und=>bif t then K (.dat .bool x []) [] else none
      | .und,.dat .bool y _=>bif t then none else K (.dat .bool y []) []
      | _,_=>none)
    | _=>none
  | .newbox k τ nils=>match h k,T7 τ (dft τ) h nils,nils.any (fun q=>Nat.beq q.2 k) with
    | .none,some (ov,es),false=>K (.ptr k []) ((k,.box τ (dft τ) ov) :: es)
    | _,_,_=>none
  | .newboxv k z=>match h k,B5 z with
    | .none,true=>K (.ptr k []) [(k,.boxv z)]
    | _,_=>none
  | .box k x=>match h k with
    | .none=>(match evO s x with
      | .dat τ x ov=>K (.ptr k []) [(k,.box τ x ov)]
      | .clo f caps=>K (.ptr k []) [(k,.boxv (.clo f caps))]
      | _=>none)
    | _=>none
  | .load t a=>Ij t h (evO s a) fun v=>K v []
  | .store t a v=>(match okL t (evO s v) with | true=>P5 h (evO s a) (evO s v) fun e=>K .junk e | false=>none)
  | .bin op x y=>AHq op (evO s x) (evO s y) fun v=>K v []
  | .eqs τ neg x y=>AK5 τ neg (evO s x) (evO s y) fun v=>K v []
  | .not x=>match evO s x with | .dat .bool b _=>K (.dat .bool (!b) []) [] | _=>none
  | .neg x=>match evO s x with | .dat (.int k) n _=>K (.dat (.int k) (k.wrap (0 - n)) []) [] | _=>none
  | .conv k x=>match evO s x with | .dat (.int _) n _=>K (.dat (.int k) (k.wrap n) []) [] | _=>none
  | .fieldAddr t j a=>X9 h t j (evO s a) fun v=>K v []
  | .field τ j a=>match evO s a with
    | .dat σ x ov=>(match Kj σ τ with | some _=>F7 σ x ov [j] fun v=>K v [] | none=>none)
    | _=>none
  | .index t x i=>G6 t h (evO s x) (evO s i) fun v=>K v []
  | .len x=>AB3 h (evO s x) fun v=>K v []
  | .lens x=>match evO s x with
    | .dat .str y _=>K (.dat (.int .i64) ((ByteArray.size y:Nat):Int) []) []
    | _=>none
  | .max xs=>match Wd s xs with | some (k,n :: l)=>K (.dat (.int k) (l.foldl (fun a b=>if a<b then b else a) n) []) [] | _=>none
  | .min xs=>match Wd s xs with | some (k,n :: l)=>K (.dat (.int k) (l.foldl (fun a b=>if b<a then b else a) n) []) [] | _=>none
  | .build τ parts nils=>match T7 τ (dft τ) h nils with
    | some (ov,es)=>Wz τ s (dft τ) ov parts fun v=>K v es
    | none=>none
  | .buildv sizes parts=>match Tq sizes (parts.map (evO s)) with | true=>K (.agv (parts.map (evO s))) [] | false=>none
  | .slice k e parts=>match h k,Wb e s parts with
    | .none,some l=>K (.dat (.sl e) [] [([],some k)]) [(k,.arr e l)]
    | _,_=>none
  | .slicev n parts=>match Bx n (parts.map (evO s)) with | true=>K (.slv (parts.map (evO s))) [] | false=>none
  | .make k e n=>match h k,evO s n with
    | .none,.dat (.int _) n _=>if 0≤n∧n≤1048576 then K (.dat (.sl e) [] [([],some k)]) [(k,.arr e (List.replicate n.toNat (dft e)))] else none
    | _,_=>none
  | .append k e x y=>match evO s x,evO s y,h k with
    | .dat (.sl e0) _ [([],some g)],.dat σ l' ov',.none=>(match h g with
      | .arr e1 l=>(match Kj e0 e,Kj e1 e,resolve h σ l' ov' with
        | some _,some _,some l'=>(match Jg σ (.sl e1) l' with
          | some l'=>if List.length l+List.length l'≤1048576 then K (.dat (.sl e) [] [([],some k)]) [(g,.dead),(k,.arr e1 (l ++ l'))] else none
          | none=>none)
        | _,_,_=>none)
      | _=>none)
    | _,_,_=>none
  | .extract x i=>match evO s x with | .tup vs=>(match vs[i]? with | some v=>K v [] | none=>none) | _=>none
  | .func f caps=>K (.clo f (caps.map (evO s))) []
  | .mkmap k κ ν=>match h k with
    | .none=>K (.ptr k []) [(k,.map κ ν [])]
    | _=>none
  | .lookup κ0 ν0 m i=>match evO s m,evO s i with
    | .ptr g [],.dat σ y []=>(match h g with
      | .map κ ν l=>(match Jg σ κ y,Kj κ κ0,Kj ν ν0 with
        | some i,some _,some _=>K (.dat ν ((Yn κ ν i l).getD (dft ν)) []) []
        | _,_,_=>none)
      | _=>none)
    | _,_=>none
  | .mapset κ0 ν0 m i v=>match evO s m,evO s i,evO s v with
    | .ptr g [],.dat σ y [],.dat ρ z []=>(match h g with
      | .map κ ν l=>(match Jg σ κ y,Jg ρ ν z,Kj κ κ0,Kj ν ν0 with
        | some i,some x,some _,some _=>K .junk [(g,.map κ ν (Gl κ ν i x l))]
        | _,_,_,_=>none)
      | _=>none)
    | _,_,_=>none
  | .mapent κ0 ν0 m i=>match evO s m,evO s i with
    | .ptr g [],.dat σ y []=>(match h g with
      | .map κ ν l=>(match Jg σ κ y,Kj κ κ0,Kj ν ν0 with
        | some i,some _,some _=>K (.tup [.dat ν ((Yn κ ν i l).getD (dft ν)) [],.dat (.int .i64) ((Er κ ν i l:Nat):Int) []]) [(g,.map κ ν (Rk κ ν i l))]
        | _,_,_=>none)
      | _=>none)
    | _,_=>none
  | .mapst κ0 ν0 m e v=>match evO s m,evO s e,evO s v with
    | .ptr g [],.dat (.int .i64) n _,.dat ρ z []=>(match h g with
      | .map κ ν l=>(match Jg ρ ν z,Kj κ κ0,Kj ν ν0 with
        | some x,some _,some _=>if (0:Int)≤n∧n<((List.length l:Nat):Int) then K .junk [(g,.map κ ν (Nc κ ν (Int.toNat n) x l))] else none
        | _,_,_=>none)
      | _=>none)
    | _,_,_=>none
  | .lookv m i ok=>match evO s m,evO s i with
    | .fmap ks vs,.dat (.int .i64) n []=>Wf n ks vs fun v b=>K (AAh ok v b) []
    | _,_=>none
  | .slx e x lo hi=>match evO s x with
    | .dat (.sl _) _ [([],some g)]=>(match h g with
      | .frz e1 l=>(match Kj e1 e,Lm s lo 0,Lm s hi ((List.length l:Nat):Int) with
        | some _,some a,some b=>if 0≤a∧a≤b∧b≤((List.length l:Nat):Int) then K (.dat (.sl e1) ((l.take b.toNat).drop a.toNat) []) [] else none
        | _,_,_=>none)
      | _=>none)
    | _=>none
  | .call f args res keep opt=>Ru cf h (evO s f) (args.map (evO s)) res keep opt K
  | .fail=>none
  | .slicearr M σ x=>match evO s x with
    | .glo k=>AFl (Rz k) M σ fun l=>K (.dat (.sl σ) l []) []
    | .ptr g []=>(match h g with
      | .box (.arr N e) l []=>(match Kj e σ,Nat.beq N M with | some _,true=>K (.dat (.sl e) l []) [(g,.dead)] | _,_=>none)
      | _=>none)
    | _=>none
structure Ln where
  d:Option Nat
  op:GOp
  g:Option (Nat×Bool):=none
  rd:List Nat:=[]
  wr:List Nat:=[]
inductive Cd where
  | skip
  | reg (draw:Bool) (l:List Ln)
  | tidy (kill:List Nat) (mv:List (Nat×Nat)) (drop:List Nat) (trunc:Option Nat)
  | frz (ids:List Nat)
  | seq (a b:Cd)
  | cond (c:Opd) (a b:Cd)
  | block (id:Nat) (a:Cd)
  | loop (a:Cd)
  | exit (id:Nat)
  | ret
inductive Ex where
  | norm | exit (id:Nat) | ret
def C9 (ids:List Nat) (h:Nat→Obj):Nat→Obj:=fun g=>match ids.any (Nat.beq g) with | true=>h g | false=>.hid
def Ar (wr:List Nat):Eff→Bool
  | []=>true
  | (g,_) :: r=>wr.any (Nat.beq g) && Ar wr r
def Bf (cf:Calls) (draw:Bool) (l:Ln) (s:Xm) (h:Y5) (K:Xm→Y5→Option R):Option R :=
  match draw with
  | false=>gop cf (Xx s) (Xo h) l.op fun v e=>K (F1 s l.d v) (Pg h e)
  | true=>gop cf (Xx s) (C9 (l.rd ++ l.wr) (Xo h)) l.op fun v e=>match Ar l.wr e with
    | true=>K (F1 s l.d v) (Pg h e)
    | false=>none
def Yz (cf:Calls) (draw:Bool):List Ln→Xm→Y5→(Xm→Y5→Option R)→Option R
  | [],s,h,K=>K s h
  | l :: r,s,h,K=>match l.g with
    | none=>Bf cf draw l s h fun s h=>Yz cf draw r s h K
    | some (j,true)=>(match Xx s j with
      | .dat .bool b []=>bif b then Bf cf draw l (La s j (.dat .bool true [])) h fun s h=>Yz cf draw r s h K
          else Yz cf draw r (F1 (La s j (.dat .bool false [])) l.d .und) h K
      | .und=>Yz cf draw r (F1 s l.d .und) h K
      | _=>none)
    | some (j,false)=>(match Xx s j with
      | .dat .bool b []=>bif b then Yz cf draw r (F1 (La s j (.dat .bool true [])) l.d .und) h K
          else Bf cf draw l (La s j (.dat .bool false [])) h fun s h=>Yz cf draw r s h K
      | .und=>Yz cf draw r (F1 s l.d .und) h K
      | _=>none)
def Gw (p:Nat→Bool):List (Z3×Option Nat)→Bool
  | []=>true
  | (_,some g) :: r=>p g && Gw p r
  | (_,none) :: r=>Gw p r
mutual
def Uc (p:Nat→Bool):SV→Bool
  | .dat _ _ ov=>Gw p ov
  | .ptr g _=>p g
  | .ref _ _=>true
  | .refv v=>Uc p v
  | .selfc _ caps=>Ol p caps
  | .glo _=>true
  | .elp g _ _=>p g
  | .clo _ caps=>Ol p caps
  | .tup vs=>Ol p vs
  | .slv vs=>Ol p vs
  | .fmap _ vs=>Ol p vs
  | .agv vs=>Ol p vs
  | .nilfn=>true
  | .und=>true
  | .junk=>true
def Ol (p:Nat→Bool):List SV→Bool
  | []=>true
  | v :: r=>Uc p v && Ol p r
end
def ACt (p:Nat→Bool):Obj→Bool
  | .box _ _ ov=>Gw p ov
  | .boxv v=>Uc p v
  | .fbox _ _ ov=>Gw p ov
  | .fboxv v=>Uc p v
  | _=>true
def Mi (p:Nat→Bool):Xm→Bool
  | []=>true
  | (_,v) :: r=>Uc p v && Mi p r
def Mh (p:Nat→Bool):Y5→Bool
  | []=>true
  | o :: r=>ACt p o && Mh p r
def neI (n g:Nat):Bool:=match Nat.beq g n with | true=>false | false=>true
def ltI (n g:Nat):Bool:=Nat.blt g n
def Ag (a b g:Nat):Nat:=match Nat.beq g a with | true=>b | false=>g
def Ke (f:Nat→Nat):List (Z3×Option Nat)→List (Z3×Option Nat)
  | []=>[]
  | (q,some g) :: r=>(q,some (f g)) :: Ke f r
  | (q,none) :: r=>(q,none) :: Ke f r
mutual
def Jz (f:Nat→Nat):SV→SV
  | .dat τ x ov=>.dat τ x (Ke f ov)
  | .ptr g p=>.ptr (f g) p
  | .ref τ x=>.ref τ x
  | .refv v=>.refv (Jz f v)
  | .selfc c caps=>.selfc c (Vw f caps)
  | .glo k=>.glo k
  | .elp g i p=>.elp (f g) i p
  | .clo c caps=>.clo c (Vw f caps)
  | .tup vs=>.tup (Vw f vs)
  | .slv vs=>.slv (Vw f vs)
  | .fmap ks vs=>.fmap ks (Vw f vs)
  | .agv vs=>.agv (Vw f vs)
  | .nilfn=>.nilfn
  | .und=>.und
  | .junk=>.junk
def Vw (f:Nat→Nat):List SV→List SV
  | []=>[]
  | v :: r=>Jz f v :: Vw f r
end
def G7 (f:Nat→Nat):Obj→Obj
  | .box τ x ov=>.box τ x (Ke f ov)
  | .boxv v=>.boxv (Jz f v)
  | .fbox τ x ov=>.fbox τ x (Ke f ov)
  | .fboxv v=>.fboxv (Jz f v)
  | o=>o
def AEf (f:Nat→Nat):Xm→Xm
  | []=>[]
  | (i,v) :: r=>(i,Jz f v) :: AEf f r
def AL3 (s:Xm) (h:Y5) (a b:Nat) (K:Xm→Y5→Option R):Option R :=
  match Xo h a with
  | .none=>K s h
  | _=>match Mi (neI b) s && Mh (neI b) h && !(Nat.beq a b) with
  | true=>K (AEf (Ag a b) s) (Rn (Rn (h.map (G7 (Ag a b))) b (Xo (h.map (G7 (Ag a b))) a)) a .none)
  | false=>none
def M5:List (Nat×Nat)→Xm→Y5→(Xm→Y5→Option R)→Option R
  | [],s,h,K=>K s h
  | (a,b) :: r,s,h,K=>AL3 s h a b fun s h=>M5 r s h K
def O0:List Nat→Xm→Y5→(Xm→Y5→Option R)→Option R
  | [],s,h,K=>K s h
  | g :: r,s,h,K=>match Xo h g with
    | .none=>O0 r s h K
    | _=>match Mi (neI g) s && Mh (neI g) h with
      | true=>O0 r s (Rn h g .none) K
      | false=>none
def Ea (n:Option Nat) (s:Xm) (h:Y5) (K:Xm→Y5→Option R):Option R :=
  match n with
  | none=>K s h
  | some n=>match Mi (ltI n) s && Mh (ltI n) (h.take n) with
    | true=>K s (h.take n)
    | false=>none
abbrev Kt (R:Type):=Ex→Xm→Y5→Option R
def Mm (body:Kt R→Kt R→Xm→Y5→Option R):Nat→Kt R→Xm→Y5→Option R
  | 0,_,_,_=>none
  | m+1,K,s,h=>body (fun _ s h=>Mm body m K s h) K s h
def Q2 (run:Cd→Kt R→Kt R→Xm→Y5→Option R) (b:Cd) (Kn K:Kt R):Kt R:=fun _ s h=>run b Kn K s h
def Jl (id:Nat) (Kn K:Kt R):Kt R:=fun ex s h=>match ex with
  | .exit i=>(match Nat.beq i id with | true=>Kn .norm s h | false=>K (.exit i) s h)
  | ex=>K ex s h
def run (cf:Calls) (lp:Nat):Cd→Kt R→Kt R→Xm→Y5→Option R
  | .skip,Kn,_,s,h=>Kn .norm s h
  | .reg draw l,Kn,_,s,h=>Yz cf draw l s h fun s h=>Kn .norm s h
  | .tidy kill mv dr tr,Kn,_,s,h=>M5 mv (Id kill s) h fun s h=>O0 dr s h fun s h=>Ea tr s h fun s h=>Kn .norm s h
  | .frz ids,Kn,_,s,h=>match Y7 (Xo h) ids with
    | some es=>Kn .norm s (Pg h es)
    | none=>none
  | .seq a b,Kn,K,s,h=>run cf lp a (fun _ s h=>run cf lp b Kn K s h) K s h
  | .cond c a b,Kn,K,s,h=>match evO (Xx s) c with
    | .dat .bool t _=>bif t then run cf lp a Kn K s h else run cf lp b Kn K s h
    | _=>none
  | .block id a,Kn,K,s,h=>run cf lp a Kn (Jl id Kn K) s h
  | .loop a,_,K,s,h=>Mm (fun Kn K s h=>run cf lp a Kn K s h) lp K s h
  | .exit id,_,K,s,h=>K (.exit id) s h
  | .ret,_,K,s,h=>K .ret s h
inductive RV where
  | tmp (t:Nat)
  | cell (t:Nat) (l:LT)
structure Fn where
  np:Nat
  res:List RV
  body:Cd
def Rr:Nat→List SV→Xm
  | _,[]=>[]
  | i,v :: r=>(i,v) :: Rr (i+1) r
def V0:Z3→Ty→Bool
  | [],.sl _=>true
  | i :: p,.st fs=>(match fs[i]? with | some t=>V0 p t | none=>false)
  | _,_=>false
def Ni (τ:Ty):List (Z3×Option Nat)→Bool
  | []=>true
  | (q,_) :: r=>V0 q τ && !(r.any fun e=>Z4 e.1 q) && Ni τ r
def Hh (s:Nat→SV) (h:Nat→Obj):RV→Option (SV×List (Z3×Nat)×List Nat)
  | .tmp t=>resFin h (s t)
  | .cell t l=>Ij l h (s t) fun v=>resFin h v
where
  resFin (h:Nat→Obj) (v:SV):Option (SV×List (Z3×Nat)×List Nat):=match v with
    | .dat τ x ov=>match resolve h τ x ov with
      | some y=>(match Ni τ ov with | true=>some (.dat τ y [],ovOwn h ov,[]) | false=>some (.dat τ y [],[],R7 ov))
      | none=>none
    | v=>match Y0 h 60 v with | some (u,ids)=>some (u,[],ids) | none=>none
  ovOwn (h:Nat→Obj):List (Z3×Option Nat)→List (Z3×Nat)
    | []=>[]
    | (q,some g) :: r=>(match h g with | .arr _ _=>(q,g) :: ovOwn h r | _=>ovOwn h r)
    | (_,none) :: r=>ovOwn h r
def resAll (s:Nat→SV) (h:Nat→Obj):Nat→List RV→Option (List SV×List ((Nat×Z3)×Nat)×List Nat)
  | _,[]=>some ([],[],[])
  | i,r :: rs=>match Hh s h r with
    | some (v,o,l)=>match resAll s h (i+1) rs with
      | some (vs,os,ls)=>some (v :: vs,o.map (fun q=>((i,q.1),q.2)) ++ os,l ++ ls)
      | none=>none
    | none=>none
def R5:List ((Nat×Z3)×Nat)→Bool
  | []=>true
  | (_,g) :: r => !(r.any fun q=>Nat.beq q.2 g) && R5 r
def Wq:List ((Nat×Z3)×Nat)→Bool
  | []=>true
  | (k,_) :: r => !(r.any fun q=>Nat.beq q.1.1 k.1 && Z4 q.1.2 k.2) && Wq r
def Ps (o:List ((Nat×Z3)×Nat)) (l:List Nat):Zz:=match R5 o && Wq o && o.all (fun q => !(l.any (Nat.beq q.2))) with
  | true=>o.map (·.1)
  | false=>[]
def Xa (fn:Fn) (res:List Sh):Kt (Z8 res×Zz):=fun ex s h =>
  match ex with
  | .exit _=>none
  | _=>match resAll (Xx s) (Xo h) 0 fn.res with
  | some (vs,o,l)=>match R8 res vs with
    | some x=>some (x,Ps o l)
    | none=>none
  | none=>none
def Km (prog:FuncId→Option Fn) (sp:Calls):Nat→Calls
  | 0,_,_,_=>none
  | n+1,f,as,res=>match prog f with
    | some fn=>match Nat.beq as.length fn.np with
      | true=>run (Km prog sp n) n fn.body (Xa fn res) (Xa fn res) (Rr 0 as) []
      | false=>none
    | none=>sp f as res
end
end Go.Proofs.YtpemapoblhleoaaGreatDoor.Ghost
namespace Go.Proofs.YtpemapoblhleoaaGreatDoor.Ghost
open Go
mutual
def Q6:Ty→Z3→Nat
  | .st fs,i :: p=>Gn fs i p
  | .arr _ e,i :: p=>i * Zg e+Q6 e p
  | _,_=>0
def Gn:List Ty→Nat→Z3→Nat
  | [],_,_=>0
  | t :: _,0,p=>Q6 t p
  | t :: r,n+1,p=>Zg t+Gn r n p
end
mutual
def okP:Ty→Z3→Prop
  | _,[]=>True
  | .st fs,i :: p=>okF fs i p
  | .arr n e,i :: p=>i<n∧okP e p
  | _,_=>False
def okF:List Ty→Nat→Z3→Prop
  | [],_,_=>False
  | t :: _,0,p=>okP t p
  | _ :: r,n+1,p=>okF r n p
end
structure Kx where
  b:Nat
  len:Nat
  cap:Nat
  es:Nat
  mp:Bool
  off:Z3→Nat
  ok:Z3→Prop
abbrev Xc:=Nat→Option Kx
abbrev Ov:=List (Z3×Option Nat)
def Wv (ρ:Xc) (g:Nat) (v:Value):Prop :=
  ∃ s a,ρ g=some s∧s.mp=false∧v=.slice a s.len s.cap∧(0<s.cap→a=some ⟨s.b,0,none⟩)
mutual
def Zj (A:Nat→Prop) (ρ:Xc) (w:World):(τ:Ty)→den τ→Ov→List Value→Prop
  | .bool,x,_,cs=>cs=[.bool x]
  | .int k,x,_,cs=>cs=[.int k x]
  | .str,x,_,cs=>cs=[.string x]
  | .sl e,l,ov,cs=>∃ a n c,cs=[.slice a n c]∧(∀ g,([],some g)∈ov→Wv ρ g (.slice a n c)) ∧
      ((∀ o,([],o) ∉ ov)→n=List.length l∧(0<n→∃ b o ds,a=some ⟨b,o,none⟩∧A b∧w.rangeAt b o ds∧ds.length=n * Zg e ∧
        ∀ i,i<n→Zj A ρ w e (List.getD l i (dft e)) [] ((ds.drop (i * Zg e)).take (Zg e))))
  | .arr n e,l,ov,cs=>List.length l=n∧cs.length=n * Zg e ∧
      ∀ i,i<n→Zj A ρ w e (List.getD l i (dft e)) (Jm [i] ov) ((cs.drop (i * Zg e)).take (Zg e))
  | .st fs,x,ov,cs=>Xj A ρ w fs 0 x ov cs
def Xj (A:Nat→Prop) (ρ:Xc) (w:World):(fs:List Ty)→Nat→K1 fs→Ov→List Value→Prop
  | [],_,_,_,cs=>cs=[]
  | t :: r,j,x,ov,cs=>Zj A ρ w t x.1 (Jm [j] ov) (cs.take (Zg t))∧Xj A ρ w r (j+1) x.2 ov (cs.drop (Zg t))
end
mutual
theorem Zj.length {A:Nat→Prop} {ρ:Xc} {w:World}:(τ:Ty)→{x:den τ}→{ov:Ov}→{cs:List Value}→Zj A ρ w τ x ov cs→cs.length=Zg τ
  | .bool,_,_,_,h=>by simp only [Zj] at h; subst h; rfl
  | .int _,_,_,_,h=>by simp only [Zj] at h; subst h; rfl
  | .str,_,_,_,h=>by simp only [Zj] at h; subst h; rfl
  | .sl _,_,_,_,h=>by simp only [Zj] at h; obtain ⟨_,_,_,rfl,_⟩:=h; rfl
  | .arr n e,_,_,_,h=>by simp only [Zj] at h; simpa only [Zg] using h.2.1
  | .st fs,_,_,_,h=>by simp only [Zj] at h; simpa only [Zg] using Xj.length fs h
theorem Xj.length {A:Nat→Prop} {ρ:Xc} {w:World}:(fs:List Ty)→{j:Nat}→{x:K1 fs}→{ov:Ov}→{cs:List Value}→Xj A ρ w fs j x ov cs→cs.length=Gp fs
  | [],_,_,_,_,h=>by simp only [Xj] at h; subst h; rfl
  | t :: r,_,_,_,_,h=>by
    simp only [Xj] at h
    have h1:=Zj.length t h.1
    have h2:=Xj.length r h.2
    simp only [List.length_take,List.length_drop] at h1 h2
    simp only [Gp]
    omega
end
mutual
theorem Zj.mono {A A':Nat→Prop} {ρ ρ':Xc} {w w':World} (hA:∀ b,A b→A' b) (hρ:∀ g s,ρ g=some s→ρ' g=some s)
    (hw:∀ b,A b→w'.heap[b]?=w.heap[b]?):(τ:Ty)→{x:den τ}→{ov:Ov}→{cs:List Value}→Zj A ρ w τ x ov cs→Zj A' ρ' w' τ x ov cs
  | .bool,_,_,_,h=>by simpa only [Zj] using h
  | .int _,_,_,_,h=>by simpa only [Zj] using h
  | .str,_,_,_,h=>by simpa only [Zj] using h
  | .sl e,_,_,_,h=>by
    simp only [Zj] at h ⊢
    obtain ⟨a,n,c,h1,h2,h3⟩:=h
    refine ⟨a,n,c,h1,fun g hg => ?_,fun hn=>⟨(h3 hn).1,fun hp => ?_⟩⟩
    · obtain ⟨s,ad,k1,k2⟩:=h2 g hg
      exact ⟨s,ad,hρ _ _ k1,k2⟩
    · obtain ⟨b,o,ds,k1,k2,k3,k4,k5⟩:=(h3 hn).2 hp
      refine ⟨b,o,ds,k1,hA b k2,fun j v hv => ?_,k4,fun i hi=>Zj.mono hA hρ hw e (k5 i hi)⟩
      have:=k3 j v hv
      unfold World.cell? at this ⊢
      simp only [hw b k2]
      exact this
  | .arr n e,_,_,_,h=>by
    simp only [Zj] at h ⊢
    exact ⟨h.1,h.2.1,fun i hi=>Zj.mono hA hρ hw e (h.2.2 i hi)⟩
  | .st fs,_,_,_,h=>by simp only [Zj] at h ⊢; exact Xj.mono hA hρ hw fs h
theorem Xj.mono {A A':Nat→Prop} {ρ ρ':Xc} {w w':World} (hA:∀ b,A b→A' b) (hρ:∀ g s,ρ g=some s→ρ' g=some s)
    (hw:∀ b,A b→w'.heap[b]?=w.heap[b]?):(fs:List Ty)→{j:Nat}→{x:K1 fs}→{ov:Ov}→{cs:List Value}→Xj A ρ w fs j x ov cs→Xj A' ρ' w' fs j x ov cs
  | [],_,_,_,_,h=>by simpa only [Xj] using h
  | t :: r,_,_,_,_,h=>by
    simp only [Xj] at h ⊢
    exact ⟨Zj.mono hA hρ hw t h.1,Xj.mono hA hρ hw r h.2⟩
end
theorem Y8 {p q:Z3} {o:Option Nat}:{ov:Ov}→((q,o)∈Jm p ov↔(p ++ q,o)∈ov):=by
  have Uj:∀ (p q r:Z3),Hs p q=some r↔q=p ++ r:=by
    intro p
    induction p with
    | nil=>intro q r; simp [Hs,eq_comm]
    | cons i p ih =>
      intro q r
      cases q with
      | nil=>simp [Hs]
      | cons j q =>
        simp only [Hs]
        cases hb:Nat.beq i j with
        | true =>
          have:=Nat.eq_of_beq_eq_true hb
          subst this
          simp [ih]
        | false =>
          have:i≠j:=fun e=>by subst e; simp [Nat.beq_refl] at hb
          simp [Ne.symm this]
  intro ov
  induction ov with
  | nil=>simp [Jm]
  | cons e r ih =>
    obtain ⟨q',o'⟩:=e
    simp only [Jm]
    cases hs:Hs p q' with
    | none =>
      simp only [List.mem_cons,Prod.mk.injEq]
      rw [ih]
      constructor
      · exact .inr
      · rintro (⟨h,_⟩ | h)
        · rw [(Uj p q' q).2 h.symm] at hs; cases hs
        · exact h
    | some q'' =>
      have:=(Uj p q' q'').1 hs
      subst this
      simp only [List.mem_cons,Prod.mk.injEq,ih,List.append_cancel_left_eq]
theorem Eu {ov ov':Ov} (h:∀ e,e∈ov↔e∈ov') (p:Z3):∀ e,e∈Jm p ov↔e∈Jm p ov':=fun ⟨q,o⟩=>by
  rw [Y8,Y8]; exact h _
mutual
theorem Zj.ov {A:Nat→Prop} {ρ:Xc} {w:World}:(τ:Ty)→{x:den τ}→{ov ov':Ov}→{cs:List Value}→(∀ e,e∈ov↔e∈ov')→Zj A ρ w τ x ov cs→Zj A ρ w τ x ov' cs
  | .bool,_,_,_,_,_,h=>by simpa only [Zj] using h
  | .int _,_,_,_,_,_,h=>by simpa only [Zj] using h
  | .str,_,_,_,_,_,h=>by simpa only [Zj] using h
  | .sl e,_,_,_,_,he,h=>by
    simp only [Zj] at h ⊢
    obtain ⟨a,n,c,h1,h2,h3⟩:=h
    exact ⟨a,n,c,h1,fun g hg=>h2 g ((he _).2 hg),fun hn=>h3 (fun o ho=>hn o ((he _).1 ho))⟩
  | .arr n e,_,_,_,_,he,h=>by
    simp only [Zj] at h ⊢
    exact ⟨h.1,h.2.1,fun i hi=>Zj.ov e (Eu he _) (h.2.2 i hi)⟩
  | .st fs,_,_,_,_,he,h=>by simp only [Zj] at h ⊢; exact Xj.ov fs he h
theorem Xj.ov {A:Nat→Prop} {ρ:Xc} {w:World}:(fs:List Ty)→{j:Nat}→{x:K1 fs}→{ov ov':Ov}→{cs:List Value}→(∀ e,e∈ov↔e∈ov')→Xj A ρ w fs j x ov cs→Xj A ρ w fs j x ov' cs
  | [],_,_,_,_,_,_,h=>by simpa only [Xj] using h
  | t :: r,_,_,_,_,_,he,h=>by
    simp only [Xj] at h ⊢
    exact ⟨Zj.ov t (Eu he _) h.1,Xj.ov r he h.2⟩
end
theorem Ev (p q:Z3) (ov:Ov):∀ e,e∈Jm q (Jm p ov)↔e∈Jm (p ++ q) ov:=fun ⟨r,o⟩=>by
  rw [Y8,Y8,Y8,List.append_assoc]
def cut (cs:List Value) (o n:Nat):List Value:=(cs.drop o).take n
theorem Pn (cs:List Value) (o n o' n':Nat) (h:o'+n'≤n):cut (cut cs o n) o' n'=cut cs (o+o') n':=by
  unfold cut
  rw [List.drop_take,List.drop_drop,List.take_take,Nat.min_eq_left (by omega)]
theorem Oz (cs:List Value) (n:Nat):cut cs 0 n=cs.take n:=rfl
theorem AGr (cs:List Value) (n:Nat) (h:cs.length=n):cut cs 0 n=cs:=by subst h; simp [cut]
mutual
theorem Px:(τ:Ty)→(p:Z3)→(x:den τ)→(d:Dyn)→okP τ p→getP p τ x=some d→Q6 τ p+Zg d.τ≤Zg τ
  | τ,[],x,d,_,h=>by
    have:d=⟨τ,x⟩:=by cases τ <;> simpa [getP,eq_comm] using h
    subst this
    cases τ <;> simp [Q6]
  | .st fs,i :: p,x,d,hk,h=>by
    simp only [Q6,Zg]
    simp only [okP] at hk
    simp only [getP] at h
    exact AG8 fs i p x d hk h
  | .arr n e,i :: p,x,d,hk,h=>by
    simp only [Q6,Zg]
    simp only [okP] at hk
    simp only [getP] at h
    have h1:=Px e p _ d hk.2 h
    have:(i+1) * Zg e≤n * Zg e:=Nat.mul_le_mul_right _ hk.1
    rw [Nat.add_mul,Nat.one_mul] at this
    omega
  | .bool,_ :: _,_,_,hk,_=>by simp [okP] at hk
  | .int _,_ :: _,_,_,hk,_=>by simp [okP] at hk
  | .str,_ :: _,_,_,hk,_=>by simp [okP] at hk
  | .sl _,_ :: _,_,_,hk,_=>by simp [okP] at hk
theorem AG8:(fs:List Ty)→(i:Nat)→(p:Z3)→(x:K1 fs)→(d:Dyn)→okF fs i p →
    (match Gj fs i x with | some d=>getP p d.τ d.x | none=>none)=some d→Gn fs i p+Zg d.τ≤Gp fs
  | [],_,_,_,_,hk,_=>by simp [okF] at hk
  | t :: r,0,p,x,d,hk,h=>by
    simp only [okF] at hk
    simp only [Gj] at h
    have:=Px t p x.1 d hk h
    simp only [Gn,Gp]
    omega
  | t :: r,n+1,p,x,d,hk,h=>by
    simp only [okF] at hk
    simp only [Gj] at h
    have:=AG8 r n p x.2 d hk h
    simp only [Gn,Gp]
    omega
end
mutual
theorem Zj.getP {A:Nat→Prop} {ρ:Xc} {w:World}:(τ:Ty)→(p:Z3)→{x:den τ}→{ov:Ov}→{cs:List Value}→{d:Dyn}→Zj A ρ w τ x ov cs→okP τ p →
    getP p τ x=some d→Zj A ρ w d.τ d.x (Jm p ov) (cut cs (Q6 τ p) (Zg d.τ))
  | τ,[],x,ov,cs,d,h,_,hg=>by
    have:d=⟨τ,x⟩:=by cases τ <;> simpa [Ghost.getP,eq_comm] using hg
    subst this
    have h0:Q6 τ []=0:=by cases τ <;> rfl
    rw [h0,AGr _ _ (Zj.length τ h)]
    exact Zj.ov τ (fun ⟨q,o⟩=>by rw [Y8]; rfl) h
  | .st fs,i :: p,x,ov,cs,d,h,hk,hg=>by
    simp only [Zj] at h
    simp only [okP] at hk
    simp only [Ghost.getP] at hg
    simp only [Q6]
    have:=Xj.getP fs 0 i p h hk hg
    simpa only [Nat.zero_add] using this
  | .arr n e,i :: p,x,ov,cs,d,h,hk,hg=>by
    simp only [Zj] at h
    simp only [okP] at hk
    simp only [Ghost.getP] at hg
    simp only [Q6]
    have h1:=Zj.getP e p (h.2.2 i hk.1) hk.2 hg
    have h2:=Px e p _ d hk.2 hg
    rw [show (List.drop (i * Zg e) cs).take (Zg e)=cut cs (i * Zg e) (Zg e) from rfl,Pn _ _ _ _ _ h2] at h1
    exact Zj.ov d.τ (Ev [i] p ov) h1
  | .bool,_ :: _,_,_,_,_,_,hk,_=>by simp [okP] at hk
  | .int _,_ :: _,_,_,_,_,_,hk,_=>by simp [okP] at hk
  | .str,_ :: _,_,_,_,_,_,hk,_=>by simp [okP] at hk
  | .sl _,_ :: _,_,_,_,_,_,hk,_=>by simp [okP] at hk
theorem Xj.getP {A:Nat→Prop} {ρ:Xc} {w:World}:(fs:List Ty)→(j i:Nat)→(p:Z3)→{x:K1 fs}→{ov:Ov}→{cs:List Value}→{d:Dyn}→Xj A ρ w fs j x ov cs→okF fs i p →
    (match Gj fs i x with | some d=>Ghost.getP p d.τ d.x | none=>none)=some d→Zj A ρ w d.τ d.x (Jm ((j+i) :: p) ov) (cut cs (Gn fs i p) (Zg d.τ))
  | [],_,_,_,_,_,_,_,_,hk,_=>by simp [okF] at hk
  | t :: r,j,0,p,x,ov,cs,d,h,hk,hg=>by
    simp only [Xj] at h
    simp only [okF] at hk
    simp only [Gj] at hg
    simp only [Gn]
    have h1:=Zj.getP t p h.1 hk hg
    have h2:=Px t p _ d hk hg
    rw [← Oz,Pn _ _ _ _ _ h2,Nat.zero_add] at h1
    exact Zj.ov d.τ (Ev [j] p ov) h1
  | t :: r,j,n+1,p,x,ov,cs,d,h,hk,hg=>by
    simp only [Xj] at h
    simp only [okF] at hk
    simp only [Gj] at hg
    simp only [Gn]
    have h1:=Xj.getP r (j+1) n p h.2 hk hg
    have:cut (List.drop (Zg t) cs) (Gn r n p) (Zg d.τ)=cut cs (Zg t+Gn r n p) (Zg d.τ):=by
      unfold cut; rw [List.drop_drop]
    rw [this] at h1
    rw [show j+(n+1)=j+1+n by omega]
    exact h1
end
end Go.Proofs.YtpemapoblhleoaaGreatDoor.Ghost
namespace Go.Proofs.YtpemapoblhleoaaGreatDoor.Ghost
open Go
def Vk (cs:List Value) (o:Nat) (ds:List Value):List Value:=cs.take o ++ ds ++ cs.drop (o+ds.length)
theorem Jy {cs:List Value} {o:Nat} {ds:List Value} (h:o+ds.length≤cs.length):(Vk cs o ds).length=cs.length:=by
  simp only [Vk,List.length_append,List.length_take,List.length_drop]; omega
theorem Qt {cs:List Value} {o:Nat} {ds:List Value} (h:o+ds.length≤cs.length) (k:Nat) :
    (Vk cs o ds)[k]?=if k<o then cs[k]? else if k<o+ds.length then ds[k - o]? else cs[k]?:=by
  simp only [Vk,List.append_assoc]
  by_cases h1:k<o
  · rw [if_pos h1,List.getElem?_append_left (by simp; omega),List.getElem?_take_of_lt h1]
  · rw [if_neg h1,List.getElem?_append_right (by simp; omega)]
    have:(List.take o cs).length=o:=by simp; omega
    rw [this]
    by_cases h2:k<o+ds.length
    · rw [if_pos h2,List.getElem?_append_left (by omega)]
    · rw [if_neg h2,List.getElem?_append_right (by omega),List.getElem?_drop]
      congr 1; omega
theorem Qs {cs:List Value} {o n:Nat} (k:Nat):(cut cs o n)[k]?=if k<n then cs[o+k]? else none:=by
  unfold cut
  by_cases h:k<n
  · rw [if_pos h,List.getElem?_take_of_lt h,List.getElem?_drop]
  · rw [if_neg h,List.getElem?_eq_none]; simp; omega
theorem Pw {cs:List Value} {o n:Nat} (h:o+n≤cs.length):(cut cs o n).length=n:=by
  unfold cut; simp only [List.length_take,List.length_drop]; omega
theorem Un {cs:List Value} {o n o':Nat} {ds:List Value} (h:o+n≤cs.length) (h':o'+ds.length≤n) :
    cut (Vk cs (o+o') ds) o n=Vk (cut cs o n) o' ds:=by
  refine List.ext_getElem? fun k => ?_
  have hl:(cut cs o n).length=n:=Pw h
  rw [Qs,Qt (by omega),Qt (by omega),Qs]
  by_cases h1:k<n
  · simp only [h1,if_true]
    by_cases h2:k<o'
    · rw [if_pos (by omega),if_pos h2]
    · rw [if_neg (by omega),if_neg h2]
      by_cases h3:k<o'+ds.length
      · rw [if_pos (by omega),if_pos h3]; congr 1; omega
      · rw [if_neg (by omega),if_neg h3]
  · simp only [h1,if_false]
    rw [if_neg (by omega),if_neg (by omega)]
theorem Hp {cs:List Value} {o n o':Nat} {ds:List Value} (h:o'+ds.length≤cs.length) (h':o+n≤o'∨o'+ds.length≤o) :
    cut (Vk cs o' ds) o n=cut cs o n:=by
  refine List.ext_getElem? fun k => ?_
  rw [Qs,Qs,Qt h]
  by_cases h1:k<n
  · simp only [h1,if_true]
    rcases h' with h' | h'
    · rw [if_pos (by omega)]
    · rw [if_neg (by omega),if_neg (by omega)]
  · simp only [h1,if_false]
theorem T0 (cs:List Value) (o:Nat):cs.drop o=cut cs o (cs.length - o):=by
  unfold cut; rw [List.take_of_length_le]; simp
def Ut (p:Z3) (ov ov' ov'':Ov):Prop:=∀ e,e∈ov''↔(e∈ov∧Hs p e.1=none)∨(∃ q,Hs p e.1=some q∧(q,e.2)∈ov')
theorem Ut.nil {ov ov' ov'':Ov} (h:Ut [] ov ov' ov''):∀ e,e∈ov'↔e∈ov'':=fun ⟨q,o⟩=>by
  rw [h (q,o)]; simp [Hs]
theorem Ut.same {i:Nat} {p:Z3} {ov ov' ov'':Ov} (h:Ut (i :: p) ov ov' ov''):Ut p (Jm [i] ov) ov' (Jm [i] ov''):=fun ⟨q,o⟩=>by
  rw [Y8,Y8,h ([i] ++ q,o)]; simp [Hs]
theorem Ut.other {i j:Nat} {p:Z3} {ov ov' ov'':Ov} (h:Ut (i :: p) ov ov' ov'') (hij:j≠i):∀ e,e∈Jm [j] ov↔e∈Jm [j] ov'':=fun ⟨q,o⟩=>by
  have:Nat.beq i j=false:=by
    cases hb:Nat.beq i j with
    | false=>rfl
    | true=>exact absurd (Nat.eq_of_beq_eq_true hb).symm hij
  rw [Y8,Y8,h ([j] ++ q,o)]; simp [Hs,this]
theorem AAn {e x:Z3×Option Nat}:{ov:Ov}→(x∈AEj e ov↔x=e∨x∈ov)
  | []=>by simp [AEj]
  | y :: r=>by
    simp only [AEj]
    split
    · simp
    · simp only [List.mem_cons,AAn (ov:=r)]
      constructor
      · rintro (h | h | h) <;> simp [h]
      · rintro (h | h | h) <;> simp [h]
theorem Nf {x:Z3×Option Nat}:{a b:Ov}→(x∈N9 a b↔x∈a∨x∈b)
  | [],_=>by simp [N9]
  | e :: r,b=>by
    simp only [N9,Nf (a:=r),AAn,List.mem_cons]
    constructor
    · rintro (h | h | h) <;> simp [h]
    · rintro ((h | h) | h) <;> simp [h]
theorem N6 {p:Z3} {e:Z3×Option Nat}:{ov:Ov}→(e∈Et p ov↔∃ q,e.1=p ++ q∧(q,e.2)∈ov)
  | []=>by simp [Et]
  | (q',o') :: r=>by
    obtain ⟨q,o⟩:=e
    simp only [Et,List.mem_cons,N6 (ov:=r),Prod.mk.injEq]
    constructor
    · rintro (⟨rfl,rfl⟩ | ⟨q'',h1,h2⟩)
      · exact ⟨q',rfl,.inl ⟨rfl,rfl⟩⟩
      · exact ⟨q'',h1,.inr h2⟩
    · rintro ⟨q'',h1,⟨rfl,rfl⟩ | h2⟩
      · exact .inl ⟨h1,rfl⟩
      · exact .inr ⟨q'',h1,h2⟩
theorem Ti {p:Z3} {e:Z3×Option Nat}:{ov:Ov}→(e∈Py p ov↔e∈ov∧Hs p e.1=none)
  | []=>by simp [Py]
  | (q',o') :: r=>by
    obtain ⟨q,o⟩:=e
    simp only [Py]
    cases hs:Hs p q' with
    | none =>
      simp only [List.mem_cons,Ti (ov:=r),Prod.mk.injEq]
      constructor
      · rintro (⟨rfl,rfl⟩ | h)
        · exact ⟨.inl ⟨rfl,rfl⟩,hs⟩
        · exact ⟨.inr h.1,h.2⟩
      · rintro ⟨⟨rfl,rfl⟩ | h,h'⟩
        · exact .inl ⟨rfl,rfl⟩
        · exact .inr ⟨h,h'⟩
    | some q'' =>
      simp only [List.mem_cons,Ti (ov:=r),Prod.mk.injEq]
      constructor
      · rintro ⟨h,h'⟩; exact ⟨.inr h,h'⟩
      · rintro ⟨⟨rfl,rfl⟩ | h,h'⟩
        · rw [hs] at h'; cases h'
        · exact ⟨h,h'⟩
theorem Uj {p q r:Z3}:Hs p q=some r↔q=p ++ r:=by
  induction p generalizing q r with
  | nil=>simp [Hs]
  | cons i p ih =>
    cases q with
    | nil=>simp [Hs]
    | cons j q =>
      simp only [Hs]
      cases hb:Nat.beq i j with
      | true =>
        have:=Nat.eq_of_beq_eq_true hb
        subst this
        simp [ih]
      | false =>
        have:i≠j:=fun e=>by subst e; simp [Nat.beq_refl] at hb
        simp [Ne.symm this]
theorem Ut.merge (p:Z3) (ov ov':Ov):Ut p ov ov' (N9 (Et p ov') (Py p ov)):=fun e=>by
  rw [Nf,N6,Ti]
  constructor
  · rintro (⟨q,h1,h2⟩ | h)
    · exact .inr ⟨q,Uj.2 h1,h2⟩
    · exact .inl h
  · rintro (h | ⟨q,h1,h2⟩)
    · exact .inr h
    · exact .inl ⟨q,Uj.1 h1,h2⟩
theorem Yf {a b:Ty} {x:den a} {y:den b} (h:Jg a b x=some y):(⟨a,x⟩:Dyn)=⟨b,y⟩:=by
  unfold Jg at h
  split at h
  · rename_i e _
    subst e
    simp at h
    subst h; rfl
  · cases h
mutual
theorem Ui:(τ:Ty)→(p:Z3)→(x x':den τ)→(d:Dyn)→okP τ p→setP τ p x d=some x'→Q6 τ p+Zg d.τ≤Zg τ
  | τ,[],x,x',d,_,h=>by
    have hc:Jg d.τ τ d.x=some x':=by cases τ <;> simpa only [setP] using h
    have:=Yf hc
    obtain ⟨σ,y⟩:=d
    cases this
    show Q6 σ []+Zg σ≤Zg σ
    cases σ <;> simp [Q6]
  | .st fs,i :: p,x,x',d,hk,h=>by
    simp only [Q6,Zg]
    simp only [okP] at hk
    simp only [setP] at h
    exact F6 fs i p x x' d hk h
  | .arr n e,i :: p,x,x',d,hk,h=>by
    simp only [Q6,Zg]
    simp only [okP] at hk
    simp only [setP] at h
    cases hs:setP e p (List.getD x i (dft e)) d with
    | none=>rw [hs] at h; cases h
    | some y =>
      have h1:=Ui e p _ _ d hk.2 hs
      have:(i+1) * Zg e≤n * Zg e:=Nat.mul_le_mul_right _ hk.1
      rw [Nat.add_mul,Nat.one_mul] at this
      omega
  | .bool,_ :: _,_,_,_,hk,_=>by simp [okP] at hk
  | .int _,_ :: _,_,_,_,hk,_=>by simp [okP] at hk
  | .str,_ :: _,_,_,_,hk,_=>by simp [okP] at hk
  | .sl _,_ :: _,_,_,_,hk,_=>by simp [okP] at hk
theorem F6:(fs:List Ty)→(i:Nat)→(p:Z3)→(x x':K1 fs)→(d:Dyn)→okF fs i p →
    Ki fs i p x d=some x'→Gn fs i p+Zg d.τ≤Gp fs
  | [],_,_,_,_,_,hk,_=>by simp [okF] at hk
  | t :: r,0,p,x,x',d,hk,h=>by
    simp only [okF] at hk
    simp only [Ki] at h
    cases hs:setP t p x.1 d with
    | none=>rw [hs] at h; cases h
    | some y =>
      have:=Ui t p x.1 y d hk hs
      simp only [Gn,Gp]
      omega
  | t :: r,n+1,p,x,x',d,hk,h=>by
    simp only [okF] at hk
    simp only [Ki] at h
    cases hs:Ki r n p x.2 d with
    | none=>rw [hs] at h; cases h
    | some y =>
      have:=F6 r n p x.2 y d hk hs
      simp only [Gn,Gp]
      omega
end
mutual
theorem Zj.setP {A:Nat→Prop} {ρ:Xc} {w:World}:(τ:Ty)→(p:Z3)→{x x':den τ}→{ov ov' ov'':Ov}→{cs ds:List Value}→{d:Dyn} →
    Zj A ρ w τ x ov cs→okP τ p→setP τ p x d=some x'→Zj A ρ w d.τ d.x ov' ds→Ut p ov ov' ov''→Zj A ρ w τ x' ov'' (Vk cs (Q6 τ p) ds)
  | τ,[],x,x',ov,ov',ov'',cs,ds,d,h,_,hs,hd,hv=>by
    have hc:Jg d.τ τ d.x=some x':=by cases τ <;> simpa only [Ghost.setP] using hs
    have:=Yf hc
    obtain ⟨σ,y⟩:=d
    cases this
    have h0:Q6 σ []=0:=by cases σ <;> rfl
    have h1:=Zj.length σ h
    have h2:ds.length=Zg σ:=Zj.length σ hd
    have:Vk cs (Q6 σ []) ds=ds:=by
      unfold Vk
      rw [h0,Nat.zero_add,List.drop_eq_nil_of_le (by omega)]; simp
    rw [this]
    exact Zj.ov σ hv.nil hd
  | .st fs,i :: p,x,x',ov,ov',ov'',cs,ds,d,h,hk,hs,hd,hv=>by
    simp only [Zj] at h ⊢
    simp only [okP] at hk
    simp only [Ghost.setP] at hs
    simp only [Q6]
    exact Xj.setP fs 0 i p h hk hs hd (by rw [Nat.zero_add]; exact hv)
  | .arr n e,i :: p,x,x',ov,ov',ov'',cs,ds,d,h,hk,hs,hd,hv=>by
    simp only [Zj] at h ⊢
    simp only [okP] at hk
    simp only [Ghost.setP] at hs
    simp only [Q6]
    cases hy:Ghost.setP e p (List.getD x i (dft e)) d with
    | none=>rw [hy] at hs; cases hs
    | some y =>
      rw [hy] at hs
      simp only [Option.some.injEq] at hs
      subst hs
      have h2:=Zj.length d.τ hd
      have h3:=Ui e p _ _ d hk.2 hy
      have h4:(i+1) * Zg e≤n * Zg e:=Nat.mul_le_mul_right _ hk.1
      rw [Nat.add_mul,Nat.one_mul] at h4
      refine ⟨by simpa using h.1,by rw [Jy (by omega)]; exact h.2.1,fun k hkn => ?_⟩
      have h4':(k+1) * Zg e≤n * Zg e:=Nat.mul_le_mul_right _ hkn
      rw [Nat.add_mul,Nat.one_mul] at h4'
      have hget:=h.2.2 k hkn
      change Zj A ρ w e _ _ (cut cs (k * Zg e) (Zg e)) at hget
      change Zj A ρ w e _ _ (cut _ (k * Zg e) (Zg e))
      by_cases hki:k=i
      · subst hki
        have h5:=Zj.setP e p hget hk.2 hy hd hv.same
        rw [Un (by omega) (by omega)]
        have:List.getD (List.set x k y) k (dft e)=y:=by
          have hl:k<List.length x:=by omega
          rw [List.getD_eq_getElem?_getD,List.getElem?_set_self hl]; rfl
        rw [this]; exact h5
      · have:List.getD (List.set x i y) k (dft e)=List.getD x k (dft e):=by
          rw [List.getD_eq_getElem?_getD,List.getElem?_set_ne (Ne.symm hki),← List.getD_eq_getElem?_getD]
        rw [this,Hp (by omega) ?_]
        · exact Zj.ov e (hv.other hki) hget
        · rcases Nat.lt_or_gt_of_ne hki with hlt | hgt
          · left
            have:(k+1) * Zg e≤i * Zg e:=Nat.mul_le_mul_right _ hlt
            rw [Nat.add_mul,Nat.one_mul] at this
            omega
          · right
            have:(i+1) * Zg e≤k * Zg e:=Nat.mul_le_mul_right _ hgt
            rw [Nat.add_mul,Nat.one_mul] at this
            omega
  | .bool,_ :: _,_,_,_,_,_,_,_,_,_,hk,_,_,_=>by simp [okP] at hk
  | .int _,_ :: _,_,_,_,_,_,_,_,_,_,hk,_,_,_=>by simp [okP] at hk
  | .str,_ :: _,_,_,_,_,_,_,_,_,_,hk,_,_,_=>by simp [okP] at hk
  | .sl _,_ :: _,_,_,_,_,_,_,_,_,_,hk,_,_,_=>by simp [okP] at hk
theorem Xj.setP {A:Nat→Prop} {ρ:Xc} {w:World}:(fs:List Ty)→(j i:Nat)→(p:Z3)→{x x':K1 fs}→{ov ov' ov'':Ov}→{cs ds:List Value}→{d:Dyn} →
    Xj A ρ w fs j x ov cs→okF fs i p→Ki fs i p x d=some x'→Zj A ρ w d.τ d.x ov' ds→Ut ((j+i) :: p) ov ov' ov''→Xj A ρ w fs j x' ov'' (Vk cs (Gn fs i p) ds)
  | [],_,_,_,_,_,_,_,_,_,_,_,_,hk,_,_,_=>by simp [okF] at hk
  | t :: r,j,0,p,x,x',ov,ov',ov'',cs,ds,d,h,hk,hs,hd,hv=>by
    have hlen:=Xj.length (t :: r) h
    simp only [Gp] at hlen
    simp only [Xj] at h ⊢
    simp only [okF] at hk
    simp only [Ki] at hs
    simp only [Gn]
    cases hy:Ghost.setP t p x.1 d with
    | none=>rw [hy] at hs; cases hs
    | some y =>
      rw [hy] at hs
      simp only [Option.some.injEq] at hs
      subst hs
      have h2:=Zj.length d.τ hd
      have h3:=Ui t p _ _ d hk hy
      have h5:=Zj.setP t p h.1 hk hy hd hv.same
      refine ⟨?_,?_⟩
      · have:=Un (cs:=cs) (o:=0) (n:=Zg t) (o':=Q6 t p) (ds:=ds) (by omega) (by omega)
        rw [Nat.zero_add] at this
        rw [← Oz,this]; exact h5
      · have:(Vk cs (Q6 t p) ds).drop (Zg t)=cs.drop (Zg t):=by
          rw [T0,Jy (by omega),Hp (by omega) (by omega),← T0]
        rw [this]
        exact Xj.skip r (j+1) (i:=j) (by omega) h.2 hv
  | t :: r,j,n+1,p,x,x',ov,ov',ov'',cs,ds,d,h,hk,hs,hd,hv=>by
    have hlen:=Xj.length (t :: r) h
    simp only [Gp] at hlen
    simp only [Xj] at h ⊢
    simp only [okF] at hk
    simp only [Ki] at hs
    simp only [Gn]
    cases hy:Ghost.Ki r n p x.2 d with
    | none=>rw [hy] at hs; cases hs
    | some y =>
      rw [hy] at hs
      simp only [Option.some.injEq] at hs
      subst hs
      have h2:=Zj.length d.τ hd
      have h3:=F6 r n p _ _ d hk hy
      have h5:=Xj.setP r (j+1) n p h.2 hk hy hd (by rw [show j+1+n=j+(n+1) by omega]; exact hv)
      refine ⟨?_,?_⟩
      · rw [← Oz,Hp (by omega) (by omega),Oz]
        exact Zj.ov t (hv.other (by omega)) h.1
      · have:(Vk cs (Zg t+Gn r n p) ds).drop (Zg t)=Vk (cs.drop (Zg t)) (Gn r n p) ds:=by
          rw [T0,Jy (by omega),Un (by omega) (by omega),← T0]
        rw [this]; exact h5
theorem Xj.skip {A:Nat→Prop} {ρ:Xc} {w:World}:(fs:List Ty)→(j:Nat)→{i:Nat}→{p:Z3}→{x:K1 fs}→{ov ov' ov'':Ov}→{cs:List Value}→i<j →
    Xj A ρ w fs j x ov cs→Ut (i :: p) ov ov' ov''→Xj A ρ w fs j x ov'' cs
  | [],_,_,_,_,_,_,_,_,_,h,_=>by simpa only [Xj] using h
  | t :: r,j,i,p,x,ov,ov',ov'',cs,hij,h,hv=>by
    simp only [Xj] at h ⊢
    exact ⟨Zj.ov t (hv.other (by omega)) h.1,Xj.skip r (j+1) (by omega) h.2 hv⟩
end
end Go.Proofs.YtpemapoblhleoaaGreatDoor.Ghost
namespace Go.Proofs.YtpemapoblhleoaaGreatDoor.Ghost
open Go
def G0:Ty→Bool
  | .st _=>true
  | .arr _ _=>true
  | _=>false
def mkV (τ:Ty) (cs:List Value):Value:=match G0 τ with
  | true=>.agg cs.toArray
  | false=>cs.headD undef
theorem Jr {A:Nat→Prop} {ρ:Xc} {w:World} {τ:Ty} {x:den τ} {ov:Ov} {cs:List Value} (h:Zj A ρ w τ x ov cs):(mkV τ cs).cells.toList=cs:=by
  cases τ with
  | bool=>simp only [Zj] at h; subst h; rfl
  | int k=>simp only [Zj] at h; subst h; rfl
  | str=>simp only [Zj] at h; subst h; rfl
  | sl e=>simp only [Zj] at h; obtain ⟨_,_,_,rfl,_⟩:=h; rfl
  | arr n e=>rfl
  | st fs=>rfl
def Yo:List Value→List Value
  | []=>[]
  | v :: r=>v.cells.toList ++ Yo r
def Wc:List SV→List Value→Prop
  | u :: r,v :: s=>v.cells.size=Q8 u∧(∀ c∈v.cells.toList,c.oneCell'=true)∧Wc r s
  | _,_=>True
mutual
def Zi (A:Nat→Prop) (ρ:Xc) (w:World):SV→Value→Prop
  | .dat τ x ov,v=>∃ cs,Zj A ρ w τ x ov cs∧v=mkV τ cs
  | .ptr g p,v=>∃ s,ρ g=some s∧s.ok p∧v=(match s.mp with | true=>.map (some s.b) | false=>.pointer (some ⟨s.b,s.off p,none⟩))
  | .ref τ x,v=>∃ b o cs,v=.pointer (some ⟨b,o,none⟩)∧A b∧w.rangeAt b o cs∧Zj A ρ w τ x [] cs
  | .refv u,v=>∃ b o u',v=.pointer (some ⟨b,o,none⟩)∧A b∧w.rangeAt b o (Value.cells u').toList∧Zi A ρ w u u'
  | .selfc f us,v=>∃ b o,v=.pointer (some ⟨b,o,none⟩)∧A b∧∃ vs:List Value,w.rangeAt b o [.func (.func f) #[] (v :: vs).toArray]∧Zm A ρ w us vs
  | .glo k,v=>v=.pointer (some ⟨k,0,none⟩)
  | .elp g i p,v=>∃ s,ρ g=some s∧s.mp=false∧i<s.len∧s.ok p∧v=.pointer (some ⟨s.b,i * s.es+s.off p,none⟩)
  | .clo f caps,v=>∃ vs:List Value,v=.func (.func f) #[] vs.toArray∧Zm A ρ w caps vs
  | .tup us,v=>∃ vs:List Value,v=.tuple vs.toArray∧Zm A ρ w us vs
  | .slv us,v=>∃ a n c,v=.slice a n c∧n=us.length∧∃ vs,Zm A ρ w us vs∧Wc us vs∧(∃ z,∀ u,u∈us→Q8 u=z)∧(0<n→∃ b o,a=some ⟨b,o,none⟩∧A b∧w.rangeAt b o (Yo vs))
  | .fmap ks us,v=>∃ b es c,v=.map (some b)∧A b∧w.heap[b]?=some (.map es c)∧es.toList.map (·.key)=ks.map (Value.int .i64)∧Zm A ρ w us (es.toList.map (·.val))
  | .agv us,v=>∃ vs,v=.agg (Yo vs).toArray∧Zm A ρ w us vs∧Wc us vs
  | .nilfn,v=>v=.nilFunc
  | .und,v=>v=undef
  | .junk,_=>True
def Zm (A:Nat→Prop) (ρ:Xc) (w:World):List SV→List Value→Prop
  | [],vs=>vs=[]
  | u :: r,vs=>∃ v vs',vs=v :: vs'∧Zi A ρ w u v∧Zm A ρ w r vs'
end
theorem X8 {w w':World} {b o:Nat} {cs:List Value} (h:w'.heap[b]?=w.heap[b]?) (hr:w.rangeAt b o cs):w'.rangeAt b o cs:=fun j v hv=>by
  have:=hr j v hv
  unfold World.cell? at this ⊢
  simp only [h]
  exact this
theorem U4 {w w':World} {b o n:Nat} (h:w'.heap[b]?=w.heap[b]?) (hr:w.there b o n):w'.there b o n:=fun j hj=>by
  have:=hr j hj
  unfold World.cell? World.frozen? at this ⊢
  simp only [h]
  exact this
mutual
theorem Zi.mono {A A':Nat→Prop} {ρ ρ':Xc} {w w':World} (hA:∀ b,A b→A' b) (hρ:∀ g s,ρ g=some s→ρ' g=some s)
    (hw:∀ b,A b→w'.heap[b]?=w.heap[b]?):(u:SV)→{v:Value}→Zi A ρ w u v→Zi A' ρ' w' u v
  | .dat τ x ov,_,h=>by
    simp only [Zi] at h ⊢
    obtain ⟨cs,h1,h2⟩:=h
    exact ⟨cs,Zj.mono hA hρ hw τ h1,h2⟩
  | .ptr g p,_,h=>by
    simp only [Zi] at h ⊢
    obtain ⟨s,h1,h2⟩:=h
    exact ⟨s,hρ _ _ h1,h2⟩
  | .ref τ x,_,h=>by
    simp only [Zi] at h ⊢
    obtain ⟨b,o,cs,h1,h2,h3,h4⟩:=h
    exact ⟨b,o,cs,h1,hA b h2,X8 (hw b h2) h3,Zj.mono hA hρ hw τ h4⟩
  | .refv u,_,h=>by
    simp only [Zi] at h ⊢
    obtain ⟨b,o,u',h1,h2,h3,h4⟩:=h
    exact ⟨b,o,u',h1,hA b h2,X8 (hw b h2) h3,Zi.mono hA hρ hw u h4⟩
  | .selfc f us,_,h=>by
    simp only [Zi] at h ⊢
    obtain ⟨b,o,h1,h2,vs,h3,h4⟩:=h
    exact ⟨b,o,h1,hA b h2,vs,X8 (hw b h2) h3,Zm.mono hA hρ hw us h4⟩
  | .elp g i p,_,h=>by
    simp only [Zi] at h ⊢
    obtain ⟨s,h1,h2⟩:=h
    exact ⟨s,hρ _ _ h1,h2⟩
  | .clo f caps,_,h=>by
    simp only [Zi] at h ⊢
    obtain ⟨vs,h1,h2⟩:=h
    exact ⟨vs,h1,Zm.mono hA hρ hw caps h2⟩
  | .tup us,_,h=>by
    simp only [Zi] at h ⊢
    obtain ⟨vs,h1,h2⟩:=h
    exact ⟨vs,h1,Zm.mono hA hρ hw us h2⟩
  | .slv us,_,h=>by
    simp only [Zi] at h ⊢
    obtain ⟨a,n,c,h1,h2,vs,h3,h5,h6,h4⟩:=h
    refine ⟨a,n,c,h1,h2,vs,Zm.mono hA hρ hw us h3,h5,h6,fun hn => ?_⟩
    obtain ⟨b,o,k1,k2,k3⟩:=h4 hn
    exact ⟨b,o,k1,hA b k2,X8 (hw b k2) k3⟩
  | .fmap ks us,_,h=>by
    simp only [Zi] at h ⊢
    obtain ⟨b,es,c,h1,h2,h3,h4,h5⟩:=h
    exact ⟨b,es,c,h1,hA b h2,by rw [hw b h2]; exact h3,h4,Zm.mono hA hρ hw us h5⟩
  | .agv us,_,h=>by
    simp only [Zi] at h ⊢
    obtain ⟨vs,h1,h2,h3⟩:=h
    exact ⟨vs,h1,Zm.mono hA hρ hw us h2,h3⟩
  | .nilfn,_,h=>by simpa only [Zi] using h
  | .glo _,_,h=>by simpa only [Zi] using h
  | .und,_,h=>by simpa only [Zi] using h
  | .junk,_,_=>by simp only [Zi]
theorem Zm.mono {A A':Nat→Prop} {ρ ρ':Xc} {w w':World} (hA:∀ b,A b→A' b) (hρ:∀ g s,ρ g=some s→ρ' g=some s)
    (hw:∀ b,A b→w'.heap[b]?=w.heap[b]?):(us:List SV)→{vs:List Value}→Zm A ρ w us vs→Zm A' ρ' w' us vs
  | [],_,h=>by simpa only [Zm] using h
  | u :: r,_,h=>by
    simp only [Zm] at h ⊢
    obtain ⟨v,vs',h1,h2,h3⟩:=h
    exact ⟨v,vs',h1,Zi.mono hA hρ hw u h2,Zm.mono hA hρ hw r h3⟩
end
mutual
theorem Rb (f:Nat→Nat):(u:SV)→Q8 (Jz f u)=Q8 u
  | .dat _ _ _=>rfl
  | .ptr _ _=>rfl
  | .ref _ _=>rfl
  | .refv _=>rfl
  | .selfc _ _=>rfl
  | .glo _=>rfl
  | .elp _ _ _=>rfl
  | .clo _ _=>rfl
  | .tup _=>rfl
  | .slv _=>rfl
  | .fmap _ _=>rfl
  | .agv us=>by simp only [Jz,Q8]; exact Iw f us
  | .nilfn=>rfl
  | .und=>rfl
  | .junk=>rfl
theorem Iw (f:Nat→Nat):(us:List SV)→K5 (Vw f us)=K5 us
  | []=>rfl
  | u :: r=>by simp only [Vw,K5,Rb f u,Iw f r]
end
theorem F8 (f:Nat→Nat):(us:List SV)→(vs:List Value)→Wc us vs→Wc (Vw f us) vs
  | [],_,_=>by simp [Vw,Wc]
  | _ :: _,[],_=>by simp [Vw,Wc]
  | u :: r,v :: s,h=>by
    simp only [Wc,Vw] at h ⊢
    exact ⟨by rw [Rb]; exact h.1,h.2.1,F8 f r s h.2.2⟩
theorem AAm {f:Nat→Nat} {u:SV}:{us:List SV}→u∈Vw f us→∃ u',u'∈us∧u=Jz f u'
  | v :: r,h=>by
    simp only [Vw,List.mem_cons] at h
    rcases h with rfl | h
    · exact ⟨v,by simp,rfl⟩
    · obtain ⟨u',h1,h2⟩:=AAm h
      exact ⟨u',by simp [h1],h2⟩
theorem Fp {f:Nat→Nat} {q:Z3} {g:Nat}:{ov:Ov}→((q,some g)∈Ke f ov↔∃ g',(q,some g')∈ov∧g=f g')
  | []=>by simp [Ke]
  | (q',some g') :: r=>by
    simp only [Ke,List.mem_cons,Fp (ov:=r),Prod.mk.injEq,Option.some.injEq]
    constructor
    · rintro (⟨rfl,rfl⟩ | ⟨g'',h1,h2⟩)
      · exact ⟨g',.inl ⟨rfl,rfl⟩,rfl⟩
      · exact ⟨g'',.inr h1,h2⟩
    · rintro ⟨g'',⟨rfl,rfl⟩ | h1,h2⟩
      · exact .inl ⟨rfl,h2⟩
      · exact .inr ⟨g'',h1,h2⟩
  | (q',none) :: r=>by simp [Ke,Fp (ov:=r)]
theorem Rl {f:Nat→Nat} {q:Z3}:{ov:Ov}→((∃ o,(q,o)∈Ke f ov)↔∃ o,(q,o)∈ov)
  | []=>by simp [Ke]
  | (q',some g') :: r=>by
    have:=Rl (f:=f) (q:=q) (ov:=r)
    simp only [Ke,List.mem_cons,Prod.mk.injEq,exists_or,this]
    constructor
    · rintro (⟨o,rfl,_⟩ | h)
      · exact .inl ⟨some g',rfl,rfl⟩
      · exact .inr h
    · rintro (⟨o,rfl,_⟩ | h)
      · exact .inl ⟨some (f g'),rfl,rfl⟩
      · exact .inr h
  | (q',none) :: r=>by
    have:=Rl (f:=f) (q:=q) (ov:=r)
    simp only [Ke,List.mem_cons,Prod.mk.injEq,exists_or,this]
theorem T6 (f:Nat→Nat) (p:Z3):(ov:Ov)→Jm p (Ke f ov)=Ke f (Jm p ov)
  | []=>rfl
  | (q,some g) :: r=>by
    simp only [Ke,Jm]
    cases Hs p q <;> simp [Ke,T6 f p r]
  | (q,none) :: r=>by
    simp only [Ke,Jm]
    cases Hs p q <;> simp [Ke,T6 f p r]
theorem Fy {p:Nat→Bool} {q:Z3} {g:Nat}:{ov:Ov}→Gw p ov=true→(q,some g)∈ov→p g=true
  | (q',some g') :: r,h,hm=>by
    simp only [Gw,Bool.and_eq_true] at h
    simp only [List.mem_cons,Prod.mk.injEq,Option.some.injEq] at hm
    rcases hm with ⟨rfl,rfl⟩ | hm
    · exact h.1
    · exact Fy h.2 hm
  | (q',none) :: r,h,hm=>by
    simp only [Gw] at h
    simp only [List.mem_cons,Prod.mk.injEq,reduceCtorEq,and_false,false_or] at hm
    exact Fy h hm
theorem Wt {p:Nat→Bool} {q:Z3}:{ov:Ov}→Gw p ov=true→Gw p (Jm q ov)=true
  | [],_=>rfl
  | (q',some g') :: r,h=>by
    simp only [Gw,Bool.and_eq_true] at h
    simp only [Jm]
    cases Hs q q'
    · exact Wt h.2
    · simp only [Gw,Bool.and_eq_true]; exact ⟨h.1,Wt h.2⟩
  | (q',none) :: r,h=>by
    simp only [Gw] at h
    simp only [Jm]
    cases Hs q q'
    · exact Wt h
    · simp only [Gw]; exact Wt h
section names
variable {A:Nat→Prop} {ρ ρ':Xc} {w:World} {p:Nat→Bool} {f:Nat→Nat} 
mutual
theorem Zj.names (hf:∀ g s,p g=true→ρ g=some s→ρ' (f g)=some s):(τ:Ty)→{x:den τ}→{ov:Ov}→{cs:List Value}→Gw p ov=true→Zj A ρ w τ x ov cs→Zj A ρ' w τ x (Ke f ov) cs
  | .bool,_,_,_,_,h=>by simpa only [Zj] using h
  | .int _,_,_,_,_,h=>by simpa only [Zj] using h
  | .str,_,_,_,_,h=>by simpa only [Zj] using h
  | .sl e,_,ov,_,hp,h=>by
    simp only [Zj] at h ⊢
    obtain ⟨a,n,c,h1,h2,h3⟩:=h
    refine ⟨a,n,c,h1,fun g hg => ?_,fun hn => ?_⟩
    · obtain ⟨g',k1,rfl⟩:=Fp.1 hg
      obtain ⟨s,ad,m1,m2⟩:=h2 g' k1
      exact ⟨s,ad,hf _ _ (Fy hp k1) m1,m2⟩
    · have hn':∀ o,([],o) ∉ ov:=fun o ho=>by
        obtain ⟨o',ho'⟩:=Rl (f:=f).2 ⟨o,ho⟩
        exact hn o' ho'
      refine ⟨(h3 hn').1,fun hpos => ?_⟩
      obtain ⟨b,o,ds,k1,k2,k3,k4,k5⟩:=(h3 hn').2 hpos
      exact ⟨b,o,ds,k1,k2,k3,k4,fun i hi=>by simpa only [Ke] using Zj.names hf e (ov:=[]) rfl (k5 i hi)⟩
  | .arr n e,_,ov,_,hp,h=>by
    simp only [Zj] at h ⊢
    exact ⟨h.1,h.2.1,fun i hi=>by rw [T6]; exact Zj.names hf e (Wt hp) (h.2.2 i hi)⟩
  | .st fs,_,_,_,hp,h=>by simp only [Zj] at h ⊢; exact Xj.names hf fs hp h
theorem Xj.names (hf:∀ g s,p g=true→ρ g=some s→ρ' (f g)=some s):(fs:List Ty)→{j:Nat}→{x:K1 fs}→{ov:Ov}→{cs:List Value}→Gw p ov=true→Xj A ρ w fs j x ov cs→Xj A ρ' w fs j x (Ke f ov) cs
  | [],_,_,_,_,_,h=>by simpa only [Xj] using h
  | t :: r,_,_,_,_,hp,h=>by
    simp only [Xj] at h ⊢
    exact ⟨by rw [T6]; exact Zj.names hf t (Wt hp) h.1,Xj.names hf r hp h.2⟩
end
mutual
theorem Zi.names (hf:∀ g s,p g=true→ρ g=some s→ρ' (f g)=some s):(u:SV)→{v:Value}→Uc p u=true→Zi A ρ w u v→Zi A ρ' w (Jz f u) v
  | .dat τ x ov,_,hp,h=>by
    simp only [Zi,Jz,Uc] at h hp ⊢
    obtain ⟨cs,h1,h2⟩:=h
    exact ⟨cs,Zj.names hf τ hp h1,h2⟩
  | .ptr g q,_,hp,h=>by
    simp only [Zi,Jz,Uc] at h hp ⊢
    obtain ⟨s,h1,h2⟩:=h
    exact ⟨s,hf _ _ hp h1,h2⟩
  | .ref τ x,_,hp,h=>by
    simp only [Zi,Jz,Uc] at h hp ⊢
    obtain ⟨b,o,cs,h1,h2,h3,h4⟩:=h
    exact ⟨b,o,cs,h1,h2,h3,by simpa only [Ke] using Zj.names hf τ (ov:=[]) rfl h4⟩
  | .refv u,_,hp,h=>by
    simp only [Zi,Jz,Uc] at h hp ⊢
    obtain ⟨b,o,u',h1,h2,h3,h4⟩:=h
    exact ⟨b,o,u',h1,h2,h3,Zi.names hf u hp h4⟩
  | .selfc c us,_,hp,h=>by
    simp only [Zi,Jz,Uc] at h hp ⊢
    obtain ⟨b,o,h1,h2,vs,h3,h4⟩:=h
    exact ⟨b,o,h1,h2,vs,h3,Zm.names hf us hp h4⟩
  | .elp g i q,_,hp,h=>by
    simp only [Zi,Jz,Uc] at h hp ⊢
    obtain ⟨s,h1,h2⟩:=h
    exact ⟨s,hf _ _ hp h1,h2⟩
  | .clo c caps,_,hp,h=>by
    simp only [Zi,Jz,Uc] at h hp ⊢
    obtain ⟨vs,h1,h2⟩:=h
    exact ⟨vs,h1,Zm.names hf caps hp h2⟩
  | .tup us,_,hp,h=>by
    simp only [Zi,Jz,Uc] at h hp ⊢
    obtain ⟨vs,h1,h2⟩:=h
    exact ⟨vs,h1,Zm.names hf us hp h2⟩
  | .slv us,_,hp,h=>by
    simp only [Zi,Jz,Uc] at h hp ⊢
    obtain ⟨a,n,c,h1,h2,vs,h3,h5,⟨z,h6⟩,h4⟩:=h
    have:∀ l:List SV,(Vw f l).length=l.length:=fun l=>by induction l <;> simp_all [Vw]
    refine ⟨a,n,c,h1,by rw [this]; exact h2,vs,Zm.names hf us hp h3,F8 f us vs h5,⟨z,fun u hu => ?_⟩,h4⟩
    obtain ⟨u',k1,rfl⟩:=AAm hu
    rw [Rb]; exact h6 u' k1
  | .fmap ks us,_,hp,h=>by
    simp only [Zi,Jz,Uc] at h hp ⊢
    obtain ⟨b,es,c,h1,h2,h3,h4,h5⟩:=h
    exact ⟨b,es,c,h1,h2,h3,h4,Zm.names hf us hp h5⟩
  | .agv us,_,hp,h=>by
    simp only [Zi,Jz,Uc] at h hp ⊢
    obtain ⟨vs,h1,h2,h3⟩:=h
    exact ⟨vs,h1,Zm.names hf us hp h2,F8 f us vs h3⟩
  | .nilfn,_,_,h=>by simpa only [Zi,Jz] using h
  | .glo _,_,_,h=>by simpa only [Zi,Jz] using h
  | .und,_,_,h=>by simpa only [Zi,Jz] using h
  | .junk,_,_,_=>by simp only [Zi,Jz]
theorem Zm.names (hf:∀ g s,p g=true→ρ g=some s→ρ' (f g)=some s):(us:List SV)→{vs:List Value}→Ol p us=true→Zm A ρ w us vs→Zm A ρ' w (Vw f us) vs
  | [],_,_,h=>by simpa only [Zm,Vw] using h
  | u :: r,_,hp,h=>by
    simp only [Zm,Vw,Ol,Bool.and_eq_true] at h hp ⊢
    obtain ⟨v,vs',h1,h2,h3⟩:=h
    exact ⟨v,vs',h1,Zi.names hf u hp.1 h2,Zm.names hf r hp.2 h3⟩
end
end names
theorem Il:(ov:Ov)→Ke id ov=ov
  | []=>rfl
  | (_,some _) :: r=>by simp [Ke,Il r]
  | (_,none) :: r=>by simp [Ke,Il r]
mutual
theorem Ik:(u:SV)→Jz id u=u
  | .dat _ _ ov=>by simp [Jz,Il ov]
  | .ptr _ _=>rfl
  | .ref _ _=>rfl
  | .refv u=>by simp [Jz,Ik u]
  | .selfc _ us=>by simp [Jz,Tg us]
  | .glo _=>rfl
  | .elp _ _ _=>rfl
  | .clo _ us=>by simp [Jz,Tg us]
  | .tup us=>by simp [Jz,Tg us]
  | .slv us=>by simp [Jz,Tg us]
  | .fmap _ us=>by simp [Jz,Tg us]
  | .agv us=>by simp [Jz,Tg us]
  | .nilfn=>rfl
  | .und=>rfl
  | .junk=>rfl
theorem Tg:(us:List SV)→Vw id us=us
  | []=>rfl
  | u :: r=>by simp [Vw,Ik u,Tg r]
end
end Go.Proofs.YtpemapoblhleoaaGreatDoor.Ghost
namespace Go.Proofs.YtpemapoblhleoaaGreatDoor.Ghost
open Go
mutual
def Wa:SV→Z3→Nat
  | .agv vs,i :: p=>Gv vs i p
  | _,_=>0
def Gv:List SV→Nat→Z3→Nat
  | [],_,_=>0
  | v :: _,0,p=>Wa v p
  | v :: r,n+1,p=>Q8 v+Gv r n p
end
theorem Uq:(us:List SV)→(vs:List Value)→{A:Nat→Prop}→{ρ:Xc}→{w:World}→Zm A ρ w us vs→Wc us vs→(Yo vs).length=K5 us
  | [],_,_,_,_,h,_=>by simp only [Zm] at h; subst h; rfl
  | u :: r,_,_,_,_,h,hs=>by
    simp only [Zm] at h
    obtain ⟨v,vs',rfl,_,h3⟩:=h
    simp only [Wc] at hs
    simp only [Yo,List.length_append,K5,Array.length_toList,hs.1,Uq r vs' h3 hs.2.2]
theorem Zi.size {A:Nat→Prop} {ρ:Xc} {w:World}:{u:SV}→{v:Value}→u≠.junk→Zi A ρ w u v→v.cells.size=Q8 u
  | .dat τ x ov,v,_,h=>by
    simp only [Zi] at h
    obtain ⟨cs,h1,rfl⟩:=h
    rw [← Array.length_toList,Jr h1,Zj.length τ h1]; rfl
  | .ptr g p,v,_,h=>by
    simp only [Zi] at h
    obtain ⟨s,_,_,rfl⟩:=h
    cases s.mp <;> rfl
  | .ref τ x,v,_,h=>by
    simp only [Zi] at h
    obtain ⟨_,_,_,rfl,_⟩:=h; rfl
  | .refv u,v,_,h=>by
    simp only [Zi] at h
    obtain ⟨_,_,_,rfl,_⟩:=h; rfl
  | .selfc f us,v,_,h=>by
    simp only [Zi] at h
    obtain ⟨_,_,rfl,_⟩:=h; rfl
  | .glo k,v,_,h=>by
    simp only [Zi] at h
    subst h; rfl
  | .elp g i p,v,_,h=>by
    simp only [Zi] at h
    obtain ⟨_,_,_,_,_,rfl⟩:=h; rfl
  | .clo f caps,v,_,h=>by
    simp only [Zi] at h
    obtain ⟨_,rfl,_⟩:=h; rfl
  | .tup us,v,_,h=>by
    simp only [Zi] at h
    obtain ⟨_,rfl,_⟩:=h; rfl
  | .slv us,v,_,h=>by
    simp only [Zi] at h
    obtain ⟨_,_,_,rfl,_⟩:=h; rfl
  | .fmap ks us,v,_,h=>by
    simp only [Zi] at h
    obtain ⟨_,_,_,rfl,_⟩:=h; rfl
  | .agv us,v,_,h=>by
    simp only [Zi] at h
    obtain ⟨vs,rfl,h2,h3⟩:=h
    show (Yo vs).toArray.size=_
    rw [List.size_toArray,Uq us vs h2 h3]; rfl
  | .nilfn,v,_,h=>by simp only [Zi] at h; subst h; rfl
  | .und,v,_,h=>by simp only [Zi] at h; subst h; rfl
  | .junk,_,h,_=>absurd rfl h
mutual
theorem Zj.one {A:Nat→Prop} {ρ:Xc} {w:World}:(τ:Ty)→{x:den τ}→{ov:Ov}→{cs:List Value}→Zj A ρ w τ x ov cs→∀ c∈cs,c.oneCell'=true
  | .bool,_,_,_,h=>by simp only [Zj] at h; subst h; simp [Value.oneCell']
  | .int _,_,_,_,h=>by simp only [Zj] at h; subst h; simp [Value.oneCell']
  | .str,_,_,_,h=>by simp only [Zj] at h; subst h; simp [Value.oneCell']
  | .sl _,_,_,_,h=>by simp only [Zj] at h; obtain ⟨_,_,_,rfl,_⟩:=h; simp [Value.oneCell']
  | .arr n e,_,_,cs,h=>by
    simp only [Zj] at h
    intro c hc
    obtain ⟨k,hk,rfl⟩:=List.getElem_of_mem hc
    have hk':k<n * Zg e:=by rw [← h.2.1]; exact hk
    have hpos:0<Zg e:=by
      rcases Nat.eq_zero_or_pos (Zg e) with h0 | h0
      · rw [h0] at hk'; simp at hk'
      · exact h0
    have hi:k / Zg e<n:=Nat.div_lt_of_lt_mul (by rw [Nat.mul_comm]; exact hk')
    refine Zj.one e (h.2.2 _ hi) _ ?_
    have hm:=Nat.div_add_mod k (Zg e)
    have hlt:=Nat.mod_lt k hpos
    rw [List.mem_iff_getElem?]
    refine ⟨k % Zg e,?_⟩
    rw [List.getElem?_take_of_lt hlt,List.getElem?_drop,Nat.mul_comm,hm,List.getElem?_eq_getElem hk]
  | .st fs,_,_,_,h=>by simp only [Zj] at h; exact Xj.one fs h
theorem Xj.one {A:Nat→Prop} {ρ:Xc} {w:World}:(fs:List Ty)→{j:Nat}→{x:K1 fs}→{ov:Ov}→{cs:List Value}→Xj A ρ w fs j x ov cs→∀ c∈cs,c.oneCell'=true
  | [],_,_,_,_,h=>by simp only [Xj] at h; subst h; simp
  | t :: r,_,_,_,cs,h=>by
    simp only [Xj] at h
    intro c hc
    rw [← List.take_append_drop (Zg t) cs,List.mem_append] at hc
    rcases hc with hc | hc
    · exact Zj.one t h.1 c hc
    · exact Xj.one r h.2 c hc
end
theorem Be:(us:List SV)→(vs:List Value)→us.length=vs.length→Wc us vs→∀ c∈Yo vs,c.oneCell'=true
  | [],[],_,_=>by simp [Yo]
  | u :: r,v :: s,hl,h=>by
    simp only [Wc] at h
    intro c hc
    simp only [Yo,List.mem_append] at hc
    rcases hc with hc | hc
    · exact h.2.1 c hc
    · exact Be r s (by simpa using hl) h.2.2 c hc
theorem Zm.len {A:Nat→Prop} {ρ:Xc} {w:World}:(us:List SV)→{vs:List Value}→Zm A ρ w us vs→us.length=vs.length
  | [],_,h=>by simp only [Zm] at h; subst h; rfl
  | u :: r,_,h=>by
    simp only [Zm] at h
    obtain ⟨v,vs',rfl,_,h3⟩:=h
    simp [Zm.len r h3]
theorem Zi.one {A:Nat→Prop} {ρ:Xc} {w:World} {u:SV} {v:Value} {n:Nat} (hs:H7 n u=true) (h:Zi A ρ w u v):∀ c∈v.cells.toList,c.oneCell'=true:=by
  cases u with
  | dat τ x ov =>
    simp only [Zi] at h
    obtain ⟨cs,h1,rfl⟩:=h
    rw [Jr h1]
    exact Zj.one τ h1
  | ptr g p =>
    simp only [Zi] at h
    obtain ⟨s,_,_,rfl⟩:=h
    cases s.mp <;> simp [Value.cells,Value.oneCell']
  | ref τ x =>
    simp only [Zi] at h
    obtain ⟨_,_,_,rfl,_⟩:=h; simp [Value.cells,Value.oneCell']
  | refv u =>
    simp only [Zi] at h
    obtain ⟨_,_,_,rfl,_⟩:=h; simp [Value.cells,Value.oneCell']
  | selfc f us =>
    simp only [Zi] at h
    obtain ⟨_,_,rfl,_⟩:=h; simp [Value.cells,Value.oneCell']
  | glo k =>
    simp only [Zi] at h
    subst h; simp [Value.cells,Value.oneCell']
  | elp g i p =>
    simp only [Zi] at h
    obtain ⟨_,_,_,_,_,rfl⟩:=h; simp [Value.cells,Value.oneCell']
  | clo f caps =>
    simp only [Zi] at h
    obtain ⟨_,rfl,_⟩:=h; simp [Value.cells,Value.oneCell']
  | slv us =>
    simp only [Zi] at h
    obtain ⟨_,_,_,rfl,_⟩:=h; simp [Value.cells,Value.oneCell']
  | fmap ks us =>
    simp only [Zi] at h
    obtain ⟨_,_,_,rfl,_⟩:=h; simp [Value.cells,Value.oneCell']
  | agv us =>
    simp only [Zi] at h
    obtain ⟨vs,rfl,h2,h3⟩:=h
    exact Be us vs (Zm.len us h2) h3
  | nilfn=>simp only [Zi] at h; subst h; simp [Value.cells,Value.oneCell']
  | und=>simp [H7] at hs
  | tup us=>simp [H7] at hs
  | junk=>simp [H7] at hs
mutual
theorem Zi.getV {A:Nat→Prop} {ρ:Xc} {w:World}:(u:SV)→{p:Z3}→{v:Value}→{x:SV}→Zi A ρ w u v→Ghost.getV u p=some x →
    ∃ v',Zi A ρ w x v'∧v'.cells.toList=cut v.cells.toList (Wa u p) v'.cells.size
  | u,[],v,x,h,hg=>by
    have:u=x:=by cases u <;> simpa [Ghost.getV] using hg
    subst this
    refine ⟨v,h,?_⟩
    have:Wa u []=0:=by cases u <;> rfl
    rw [this,AGr]; simp
  | .agv us,i :: p,v,x,h,hg=>by
    simp only [Zi] at h
    obtain ⟨vs,rfl,h2,h3⟩:=h
    simp only [Ghost.getV] at hg
    obtain ⟨v',k1,k2⟩:=Zm.getV us h2 h3 hg
    exact ⟨v',k1,by simpa only [Wa,Value.cells] using k2⟩
  | .dat _ _ _,_ :: _,_,_,_,hg=>by simp [Ghost.getV] at hg
  | .ptr _ _,_ :: _,_,_,_,hg=>by simp [Ghost.getV] at hg
  | .ref _ _,_ :: _,_,_,_,hg=>by simp [Ghost.getV] at hg
  | .refv _,_ :: _,_,_,_,hg=>by simp [Ghost.getV] at hg
  | .selfc _ _,_ :: _,_,_,_,hg=>by simp [Ghost.getV] at hg
  | .glo _,_ :: _,_,_,_,hg=>by simp [Ghost.getV] at hg
  | .elp _ _ _,_ :: _,_,_,_,hg=>by simp [Ghost.getV] at hg
  | .clo _ _,_ :: _,_,_,_,hg=>by simp [Ghost.getV] at hg
  | .tup _,_ :: _,_,_,_,hg=>by simp [Ghost.getV] at hg
  | .slv _,_ :: _,_,_,_,hg=>by simp [Ghost.getV] at hg
  | .fmap _ _,_ :: _,_,_,_,hg=>by simp [Ghost.getV] at hg
  | .nilfn,_ :: _,_,_,_,hg=>by simp [Ghost.getV] at hg
  | .und,_ :: _,_,_,_,hg=>by simp [Ghost.getV] at hg
  | .junk,_ :: _,_,_,_,hg=>by simp [Ghost.getV] at hg
theorem Zm.getV {A:Nat→Prop} {ρ:Xc} {w:World}:(us:List SV)→{i:Nat}→{p:Z3}→{vs:List Value}→{x:SV}→Zm A ρ w us vs→Wc us vs→getV.getVL us i p=some x →
    ∃ v',Zi A ρ w x v'∧v'.cells.toList=cut (Yo vs) (Gv us i p) v'.cells.size
  | [],_,_,_,_,_,_,hg=>by simp [getV.getVL] at hg
  | u :: r,0,p,vs,x,h,hs,hg=>by
    simp only [Zm] at h
    obtain ⟨v,vs',rfl,h2,h3⟩:=h
    simp only [getV.getVL] at hg
    obtain ⟨v',k1,k2⟩:=Zi.getV u h2 hg
    refine ⟨v',k1,?_⟩
    rw [k2]
    simp only [Gv,Yo]
    refine List.ext_getElem? fun k => ?_
    have hl:v'.cells.size≤v.cells.size - Wa u p∨True:=.inr trivial
    have k3:(cut v.cells.toList (Wa u p) v'.cells.size).length=v'.cells.size:=by rw [← k2]; simp
    have k4:v'.cells.size=min v'.cells.size (v.cells.size - Wa u p):=by
      unfold cut at k3
      simp only [List.length_take,List.length_drop,Array.length_toList] at k3
      omega
    rw [Qs,Qs]
    by_cases hk:k<v'.cells.size
    · simp only [hk,if_true]
      rw [List.getElem?_append_left (by simp only [Array.length_toList]; omega)]
    · simp only [hk,if_false]
  | u :: r,n+1,p,vs,x,h,hs,hg=>by
    simp only [Zm] at h
    obtain ⟨v,vs',rfl,h2,h3⟩:=h
    simp only [Wc] at hs
    simp only [getV.getVL] at hg
    obtain ⟨v',k1,k2⟩:=Zm.getV r h3 hs.2.2 hg
    refine ⟨v',k1,?_⟩
    rw [k2]
    simp only [Gv,Yo]
    unfold cut
    have hz:List.drop v.cells.size v.cells.toList=[]:=List.drop_eq_nil_of_le (by simp)
    rw [← hs.1,← List.drop_drop,List.drop_append_of_le_length (by simp),hz,List.nil_append]
end
def Xl (A:Nat→Prop) (ρ:Xc) (w:World) (κ ν:Ty):List (den κ×den ν)→List MapEntry→Prop
  | [],es=>es=[]
  | (k,v) :: r,es=>∃ e es',es=e :: es'∧(∃ cs,Zj A ρ w κ k [] cs∧e.key=mkV κ cs)∧(∃ cs,Zj A ρ w ν v [] cs∧e.val=mkV ν cs)∧Xl A ρ w κ ν r es'
def AA5 (es:List MapEntry) (c:Nat):Prop:=c=es.length∧∀ (j:Nat) e,es[j]?=some e→e.born=j
def Own (own:Nat→Option Nat) (w:World) (g:Nat) (s:Kx) (cs:List Value):Prop :=
  own s.b=some g∧w.rangeAt s.b 0 cs∧w.there s.b 0 cs.length
def ACq (A:Nat→Prop) (w:World) (s:Kx) (cs:List Value):Prop:=A s.b∧w.rangeAt s.b 0 cs
def Ww (A:Nat→Prop) (ρ:Xc) (w:World) (g:Nat) (τ:Ty) (x:den τ) (ov:Ov) (M:Kx→List Value→Prop):Prop :=
  ∃ s cs,ρ g=some s∧s.mp=false∧s.off=Q6 τ∧s.ok=okP τ∧M s cs∧Zj A ρ w τ x ov cs
def okV (u:SV) (p:Z3):Prop:=∃ x,getV u p=some x
def Ul (A:Nat→Prop) (ρ:Xc) (w:World) (g:Nat) (u:SV) (M:Kx→List Value→Prop):Prop :=
  ∃ s v,ρ g=some s∧s.mp=false∧s.off=Wa u∧s.ok=okV u∧u≠.junk∧M s (Value.cells v).toList∧Zi A ρ w u v
def Vy (A:Nat→Prop) (ρ:Xc) (w:World) (g:Nat) (e:Ty) (l:List (den e)) (M:Kx→List Value→Prop):Prop :=
  ∃ s,ρ g=some s∧s.mp=false∧s.es=Zg e∧0<Zg e∧s.off=Q6 e∧s.ok=okP e∧List.length l=s.len∧s.len≤s.cap ∧
    (0<s.cap→∃ cs,cs.length=s.cap * s.es∧M s cs∧∀ i,i<s.len→Zj A ρ w e (List.getD l i (dft e)) [] (cut cs (i * s.es) s.es))
def Vh (A:Nat→Prop) (ρ:Xc) (own:Nat→Option Nat) (w:World) (g:Nat):Obj→Prop
  | .box τ x ov=>Ww A ρ w g τ x ov (Own own w g)
  | .boxv u=>Ul A ρ w g u (Own own w g)
  | .fbox τ x ov=>Ww A ρ w g τ x ov (ACq A w)
  | .fboxv u=>Ul A ρ w g u (ACq A w)
  | .arr e l=>Vy A ρ w g e l (Own own w g)
  | .frz e l=>Vy A ρ w g e l (ACq A w)
  | .map κ ν l=>∃ s es c,ρ g=some s∧s.mp=true∧own s.b=some g∧(∀ p,s.ok p↔p=[])∧w.heap[s.b]?=some (.map es c)∧Xl A ρ w κ ν l es.toList∧AA5 es.toList c
  | .hid=>True
  | .dead=>True
  | .none=>ρ g=none
theorem Xl.mono {A A':Nat→Prop} {ρ ρ':Xc} {w w':World} (hA:∀ b,A b→A' b) (hρ:∀ g s,ρ g=some s→ρ' g=some s)
    (hw:∀ b,A b→w'.heap[b]?=w.heap[b]?) {κ ν:Ty}:{l:List (den κ×den ν)}→{es:List MapEntry}→Xl A ρ w κ ν l es→Xl A' ρ' w' κ ν l es
  | [],_,h=>by simpa only [Xl] using h
  | (k,v) :: r,_,h=>by
    simp only [Xl] at h ⊢
    obtain ⟨e,es',h1,⟨c1,h2,h3⟩,⟨c2,h4,h5⟩,h6⟩:=h
    exact ⟨e,es',h1,⟨c1,Zj.mono hA hρ hw κ h2,h3⟩,⟨c2,Zj.mono hA hρ hw ν h4,h5⟩,Xl.mono hA hρ hw h6⟩
theorem Vh.mono {A A':Nat→Prop} {ρ ρ':Xc} {own own':Nat→Option Nat} {w w':World} {g:Nat} (hA:∀ b,A b→A' b) (hρ:∀ g s,ρ g=some s→ρ' g=some s)
    (hw:∀ b,A b∨own b=some g→w'.heap[b]?=w.heap[b]?) (ho:∀ b,own b=some g→own' b=some g) (hn:ρ g=none→ρ' g=none):{o:Obj}→Vh A ρ own w g o→Vh A' ρ' own' w' g o
  | .box τ x ov,h=>by
    simp only [Vh,Ww] at h ⊢
    obtain ⟨s,cs,h1,h2,h3,h4,⟨m1,m2,m3⟩,h5⟩:=h
    exact ⟨s,cs,hρ _ _ h1,h2,h3,h4,⟨ho _ m1,X8 (hw _ (.inr m1)) m2,U4 (hw _ (.inr m1)) m3⟩,Zj.mono hA hρ (fun b hb=>hw b (.inl hb)) τ h5⟩
  | .boxv u,h=>by
    simp only [Vh,Ul] at h ⊢
    obtain ⟨s,cs,h1,h2,h3,h4,h6,⟨m1,m2,m3⟩,h5⟩:=h
    exact ⟨s,cs,hρ _ _ h1,h2,h3,h4,h6,⟨ho _ m1,X8 (hw _ (.inr m1)) m2,U4 (hw _ (.inr m1)) m3⟩,Zi.mono hA hρ (fun b hb=>hw b (.inl hb)) u h5⟩
  | .fbox τ x ov,h=>by
    simp only [Vh,Ww] at h ⊢
    obtain ⟨s,cs,h1,h2,h3,h4,⟨m1,m2⟩,h5⟩:=h
    exact ⟨s,cs,hρ _ _ h1,h2,h3,h4,⟨hA _ m1,X8 (hw _ (.inl m1)) m2⟩,Zj.mono hA hρ (fun b hb=>hw b (.inl hb)) τ h5⟩
  | .fboxv u,h=>by
    simp only [Vh,Ul] at h ⊢
    obtain ⟨s,cs,h1,h2,h3,h4,h6,⟨m1,m2⟩,h5⟩:=h
    exact ⟨s,cs,hρ _ _ h1,h2,h3,h4,h6,⟨hA _ m1,X8 (hw _ (.inl m1)) m2⟩,Zi.mono hA hρ (fun b hb=>hw b (.inl hb)) u h5⟩
  | .arr e l,h=>by
    simp only [Vh,Vy] at h ⊢
    obtain ⟨s,h1,h2,h3,h4,h5,h6,h7,h8,h9⟩:=h
    refine ⟨s,hρ _ _ h1,h2,h3,h4,h5,h6,h7,h8,fun hc => ?_⟩
    obtain ⟨cs,k1,⟨m1,m2,m3⟩,k2⟩:=h9 hc
    exact ⟨cs,k1,⟨ho _ m1,X8 (hw _ (.inr m1)) m2,U4 (hw _ (.inr m1)) m3⟩,fun i hi=>Zj.mono hA hρ (fun b hb=>hw b (.inl hb)) e (k2 i hi)⟩
  | .frz e l,h=>by
    simp only [Vh,Vy] at h ⊢
    obtain ⟨s,h1,h2,h3,h4,h5,h6,h7,h8,h9⟩:=h
    refine ⟨s,hρ _ _ h1,h2,h3,h4,h5,h6,h7,h8,fun hc => ?_⟩
    obtain ⟨cs,k1,⟨m1,m2⟩,k2⟩:=h9 hc
    exact ⟨cs,k1,⟨hA _ m1,X8 (hw _ (.inl m1)) m2⟩,fun i hi=>Zj.mono hA hρ (fun b hb=>hw b (.inl hb)) e (k2 i hi)⟩
  | .map κ ν l,h=>by
    simp only [Vh] at h ⊢
    obtain ⟨s,es,c,h1,h2,h3,h4,h5,h6,h7⟩:=h
    exact ⟨s,es,c,hρ _ _ h1,h2,ho _ h3,h4,by rw [hw _ (.inr h3)]; exact h5,Xl.mono hA hρ (fun b hb=>hw b (.inl hb)) h6,h7⟩
  | .hid,_=>trivial
  | .dead,_=>trivial
  | .none,h=>hn h
def Vr (A:Nat→Prop) (w:World):Prop:=∀ k d,Rz k=some d→A k∧∃ cs,Zj A (fun _=>none) w d.τ d.x [] cs∧w.rangeAt k 0 cs
theorem Vr.mono {A A':Nat→Prop} {w w':World} (hA:∀ b,A b→A' b) (hw:∀ b,A b→w'.heap[b]?=w.heap[b]?) (h:Vr A w):Vr A' w':=fun k d hd=>by
  obtain ⟨h1,cs,h2,h3⟩:=h k d hd
  exact ⟨hA k h1,cs,Zj.mono hA (fun _ _ h=>h) hw d.τ h2,X8 (hw k h1) h3⟩
structure Y6 where
  w:World
  A:Nat→Prop
structure St (B:Nat) (w0:Y6) (A:Nat→Prop) (ρ:Xc) (own:Nat→Option Nat) (w:World) (h:Nat→Obj):Prop where
  objs:∀ g,Vh A ρ own w g (h g)
  apart:∀ b g,own b=some g→¬ A b
  old:∀ b,A b→b<w.heap.size
  oldO:∀ b g,own b=some g→b<w.heap.size
  base:∀ b g,own b=some g→B≤b
  below:RowKit.Below B w0.w w
  hB:B≤w0.w.heap.size
  imm:∀ b,A b→w0.A b∨B≤b
  names:∀ g,(∃ s,ρ g=some s)→h g≠.none
  glob:Vr A w
structure Ye (A:Nat→Prop) (ρ:Xc) (w:World) (A':Nat→Prop) (ρ':Xc) (w':World):Prop where
  hA:∀ b,A b→A' b
  hρ:∀ g s,ρ g=some s→ρ' g=some s
  hw:∀ b,A b→w'.heap[b]?=w.heap[b]?
theorem Ye.refl (A:Nat→Prop) (ρ:Xc) (w:World):Ye A ρ w A ρ w:=⟨fun _ h=>h,fun _ _ h=>h,fun _ _=>rfl⟩
theorem Ye.trans {A A' A'':Nat→Prop} {ρ ρ' ρ'':Xc} {w w' w'':World} (h:Ye A ρ w A' ρ' w') (k:Ye A' ρ' w' A'' ρ'' w''):Ye A ρ w A'' ρ'' w'' :=
  ⟨fun b hb=>k.hA b (h.hA b hb),fun g s hs=>k.hρ g s (h.hρ g s hs),fun b hb=>(k.hw b (h.hA b hb)).trans (h.hw b hb)⟩
theorem Ye.repV {A A':Nat→Prop} {ρ ρ':Xc} {w w':World} (h:Ye A ρ w A' ρ' w') {u:SV} {v:Value} (hv:Zi A ρ w u v):Zi A' ρ' w' u v :=
  Zi.mono h.hA h.hρ h.hw u hv
theorem Ye.repC {A A':Nat→Prop} {ρ ρ':Xc} {w w':World} (h:Ye A ρ w A' ρ' w') {τ:Ty} {x:den τ} {ov:Ov} {cs:List Value} (hv:Zj A ρ w τ x ov cs):Zj A' ρ' w' τ x ov cs :=
  Zj.mono h.hA h.hρ h.hw τ hv
theorem St.turn {B:Nat} {w0:Y6} {A A':Nat→Prop} {ρ ρ':Xc} {own own':Nat→Option Nat} {w w':World} {h h':Nat→Obj} (st:St B w0 A ρ own w h) (G:Nat→Prop)
    (hl:Ye A ρ w A' ρ' w') (hw:∀ b g,own b=some g→¬ G g→w'.heap[b]?=w.heap[b]?) (ho:∀ b g,own b=some g→¬ G g→own' b=some g)
    (hn:∀ g,¬ G g→ρ g=none→ρ' g=none) (hh:∀ g,¬ G g→h' g=h g) (hG:∀ g,G g→Vh A' ρ' own' w' g (h' g)) (hGn:∀ g,G g→h' g≠.none)
    (hap:∀ b g,own' b=some g→¬ A' b) (hold:∀ b,A' b→b<w'.heap.size) (holdO:∀ b g,own' b=some g→b<w'.heap.size) (hbase:∀ b g,own' b=some g→B≤b)
    (hbelow:RowKit.Below B w w') (himm:∀ b,A' b→A b∨B≤b):St B w0 A' ρ' own' w' h' where
  glob:=st.glob.mono hl.hA hl.hw
  objs g:=by
    by_cases hg:G g
    · exact hG g hg
    · rw [hh g hg]
      refine Vh.mono hl.hA hl.hρ (fun b hb => ?_) (fun b hb=>ho b g hb hg) (hn g hg) (st.objs g)
      rcases hb with hb | hb
      · exact hl.hw b hb
      · exact hw b g hb hg
  apart:=hap
  old:=hold
  oldO:=holdO
  base:=hbase
  below:=st.below.trans hbelow
  hB:=st.hB
  imm b hb:=(himm b hb).elim (st.imm b) .inr
  names g hg:=by
    by_cases hg':G g
    · exact hGn g hg'
    · rw [hh g hg']
      refine st.names g ?_
      cases hr:ρ g with
      | none=>obtain ⟨s,hs⟩:=hg; rw [hn g hg' hr] at hs; cases hs
      | some s=>exact ⟨s,rfl⟩
end Go.Proofs.YtpemapoblhleoaaGreatDoor.Ghost
namespace Go.Proofs.YtpemapoblhleoaaGreatDoor.Ghost
open Go
mutual
def zeroCells:Ty→List Value
  | .bool=>[.bool false]
  | .int k=>[.int k 0]
  | .str=>[.string ⟨#[]⟩]
  | .sl _=>[.slice none 0 0]
  | .arr n e=>Da n (zeroCells e)
  | .st fs=>Ht fs
def Ht:List Ty→List Value
  | []=>[]
  | t :: r=>zeroCells t ++ Ht r
def Da:Nat→List Value→List Value
  | 0,_=>[]
  | n+1,l=>l ++ Da n l
end
def AE7:Value→Value→Bool
  | .bool a,.bool b=>a == b
  | .int k a,.int k' b=>decide (k=k') && decide (a=b)
  | .string a,.string b=>Nat.beq a.data.size 0 && Nat.beq b.data.size 0
  | .slice none 0 0,.slice none 0 0=>true
  | .nilFunc,.nilFunc=>true
  | _,_=>false
def Ec:List Value→List Value→Bool
  | [],[]=>true
  | a :: r,b :: s=>AE7 a b && Ec r s
  | _,_=>false
theorem AMt:{a b:Value}→AE7 a b=true→a=b
  | .bool a,.bool b,h=>by simp [AE7] at h; rw [h]
  | .int k a,.int k' b,h=>by simp [AE7] at h; rw [h.1,h.2]
  | .string a,.string b,h=>by
    simp only [AE7,Bool.and_eq_true] at h
    have h1:=Nat.eq_of_beq_eq_true h.1
    have h2:=Nat.eq_of_beq_eq_true h.2
    obtain ⟨⟨l⟩⟩:=a
    obtain ⟨⟨m⟩⟩:=b
    simp at h1 h2
    subst h1; subst h2; rfl
  | .slice none 0 0,.slice none 0 0,_=>rfl
  | .nilFunc,.nilFunc,_=>rfl
theorem Mc:{a b:List Value}→Ec a b=true→a=b
  | [],[],_=>rfl
  | a :: r,b :: s,h=>by
    simp only [Ec,Bool.and_eq_true] at h
    rw [AMt h.1,Mc h.2]
def Jj (P:Program) (t:TypeId) (n:Nat):Bool:=match P.info? t with
  | some i=>Nat.beq i.size n
  | none=>false
mutual
def Xp (P:Program):Ty→TypeId→Bool
  | .bool,t=>(match P.underlying t with | some .bool=>true | _=>false)
  | .int k,t=>(match P.underlying t with | some (.int k')=>decide (k=k') | _=>false)
  | .str,t=>(match P.underlying t with | some .string=>true | _=>false)
  | .sl e,t=>(match P.underlying t with | some (.slice e')=>Xp P e e' && Jj P e' (Zg e) && Nat.blt 0 (Zg e) | _=>false)
  | .arr n e,t=>(match P.underlying t with | some (.array n' e')=>Nat.beq n' n && Xp P e e' && Jj P e' (Zg e) && Nat.blt 0 (Zg e) | _=>false)
  | .st fs,t=>(match P.underlying t with | some (.struct l)=>Qw P fs 0 l.toList | _=>false)
def Qw (P:Program):List Ty→Nat→List Field→Bool
  | [],_,[]=>true
  | t :: r,o,f :: s=>Nat.beq f.offset o && Jj P f.type (Zg t) && Nat.blt 0 (Zg t) && Xp P t f.type && Qw P r (o+Zg t) s
  | _,_,_=>false
end
def Lg (P:Program) (τ:Ty) (t:TypeId):Bool:=match P.info? t with
  | some i=>(match i.zero with | some (.agg cs)=>G0 τ && Ec cs.toList (zeroCells τ) | some v => !(G0 τ) && Ec [v] (zeroCells τ) | none=>false)
  | none=>false
theorem Gz {P:Program} {t:TypeId} {n:Nat} (h:Jj P t n=true):∃ i,P.info? t=some i∧i.size=n:=by
  unfold Jj at h
  split at h
  · rename_i i hi; exact ⟨i,hi,Nat.eq_of_beq_eq_true h⟩
  · cases h
theorem AGc {P:Program} {t:TypeId} {n:Nat} (h:Jj P t n=true):(P.info? t).map (·.size)=some n:=by
  obtain ⟨i,h1,h2⟩:=Gz h
  rw [h1]; simp [h2]
theorem J0 {P:Program} {t:TypeId} {n:Nat} (h:Jj P t n=true) (w:World):(sizeOf t).run P w=.ok n w:=by
  obtain ⟨i,h1,h2⟩:=Gz h
  simp [sizeOf,typeInfo,h1,h2]
theorem Gg {P:Program} {t:TypeId} {i:TypeInfo} (h:P.info? t=some i) (w:World):(typeInfo t).run P w=.ok i w:=by
  simp [typeInfo,h]
theorem Ei {P:Program}:{τ:Ty}→{t:TypeId}→Xp P τ t=true→∃ d,P.underlying t=some d∧d.isRow=G0 τ
  | .bool,_,h=>by simp only [Xp] at h; split at h <;> simp_all [G0,TypeDesc.isRow]
  | .int k,_,h=>by simp only [Xp] at h; split at h <;> simp_all [G0,TypeDesc.isRow]
  | .str,_,h=>by simp only [Xp] at h; split at h <;> simp_all [G0,TypeDesc.isRow]
  | .sl e,_,h=>by simp only [Xp] at h; split at h <;> simp_all [G0,TypeDesc.isRow]
  | .arr n e,_,h=>by simp only [Xp] at h; split at h <;> simp_all [G0,TypeDesc.isRow]
  | .st fs,_,h=>by simp only [Xp] at h; split at h <;> simp_all [G0,TypeDesc.isRow]
theorem Bt {P:Program} {t:TypeId} {d:TypeDesc} (h:P.underlying t=some d) (w:World):(isAgg t).run P w=.ok d.isRow w:=by
  unfold isAgg
  rw [Sem.run_bind,run_underlying h w]
  cases d <;> rfl
theorem U6 {P:Program} {τ:Ty} {t:TypeId} (h:Lg P τ t=true) (w:World):(zeroValue t).run P w=.ok (mkV τ (zeroCells τ)) w:=by
  unfold Lg at h
  cases hi:P.info? t with
  | none=>rw [hi] at h; cases h
  | some i =>
    simp only [hi] at h
    simp only [zeroValue,Sem.run_bind,Gg hi,Result.andThen_ok]
    cases hz:i.zero with
    | none=>simp [hz] at h
    | some v =>
      simp only [hz] at h
      have key:v=mkV τ (zeroCells τ):=by
        cases v with
        | agg cs =>
          simp only [Bool.and_eq_true] at h
          have:=Mc h.2
          unfold mkV
          rw [h.1,← this]
        | _ =>
          simp only [Bool.and_eq_true,Bool.not_eq_true'] at h
          have:=Mc h.2
          unfold mkV
          rw [h.1,← this]; rfl
      subst key
      rfl
theorem AD8 (n:Nat) (l:List Value):(Da n l).length=n * l.length:=by
  induction n with
  | zero=>simp [Da]
  | succ n ih=>simp only [Da,List.length_append,ih,Nat.add_mul,Nat.one_mul]; omega
theorem AC7 (l:List Value):(n i:Nat)→i<n→cut (Da n l) (i * l.length) l.length=l
  | 0,_,h=>by omega
  | n+1,0,_=>by simp [cut,Da]
  | n+1,i+1,h=>by
    have:=AC7 l n i (by omega)
    unfold cut at this ⊢
    rw [show (i+1) * l.length=l.length+i * l.length by rw [Nat.add_mul]; omega]
    simp only [Da]
    rw [← List.drop_drop,List.drop_append_of_le_length (by omega),List.drop_length,List.nil_append]
    exact this
theorem O4 {α:Type} {n i:Nat} {x d:α} (h:i<n):(List.replicate n x).getD i d=x:=by
  rw [List.getD_eq_getElem?_getD,List.getElem?_replicate,if_pos h]; rfl
mutual
theorem Zj.zero (A:Nat→Prop) (ρ:Xc) (w:World):(τ:Ty)→Zj A ρ w τ (dft τ) [] (zeroCells τ)
  | .bool=>by simp only [Zj,dft,zeroCells]
  | .int k=>by simp only [Zj,dft,zeroCells]
  | .str=>by simp only [Zj,dft,zeroCells]
  | .sl e=>by
    simp only [Zj,zeroCells]
    exact ⟨none,0,0,rfl,by simp,fun _=>⟨rfl,by simp⟩⟩
  | .arr n e=>by
    have he:=Zj.zero A ρ w e
    have hl:=Zj.length e he
    simp only [Zj,zeroCells]
    refine ⟨by simp [dft],by rw [AD8,hl],fun i hi => ?_⟩
    have hc:=AC7 (zeroCells e) n i hi
    rw [hl] at hc
    simp only [dft]
    change Zj A ρ w e _ _ (cut (Da n (zeroCells e)) (i * Zg e) (Zg e))
    rw [O4 hi,hc]
    exact he
  | .st fs=>by simp only [Zj,zeroCells]; exact Xj.zero A ρ w fs 0
theorem Xj.zero (A:Nat→Prop) (ρ:Xc) (w:World):(fs:List Ty)→(j:Nat)→Xj A ρ w fs j (BG4 fs) [] (Ht fs)
  | [],_=>by simp only [Xj,Ht]
  | t :: r,j=>by
    have ht:=Zj.zero A ρ w t
    have hl:=Zj.length t ht
    simp only [Xj,Ht]
    exact ⟨by rw [← hl,List.take_left]; exact ht,by rw [← hl,List.drop_left]; exact Xj.zero A ρ w r (j+1)⟩
end
def Nw:(τ:Ty)→den τ→Value→Bool
  | .bool,x,.bool b=>x == b
  | .int k,x,.int k' n=>decide (k=k') && decide (x=n)
  | .str,x,.string s=>decide (x.data.toList=s.data.toList)
  | .sl _,x,.slice _ 0 _=>List.isEmpty x
  | _,_,_=>false
def Xh:Opd→Operand→Bool
  | .t i,.tmp j=>Nat.beq i j
  | .g k,.global g=>Nat.beq k g
  | .c τ x,.const v=>Nw τ x v
  | .f f,.func g=>Nat.beq f g
  | .nf,.const .nilFunc=>true
  | _,_=>false
def Jk:List Opd→List Operand→Bool
  | [],[]=>true
  | x :: r,y :: s=>Xh x y && Jk r s
  | _,_=>false
def Xe (A:Nat→Prop) (ρ:Xc) (w:World) (s:Nat→SV) (a:Act):Prop:=∀ i,Zi A ρ w (s i) (a.eval (.tmp i))
theorem AC5 {A:Nat→Prop} {ρ:Xc} {w:World}:(τ:Ty)→(x:den τ)→(v:Value)→Nw τ x v=true→Zi A ρ w (.dat τ x []) v
  | .bool,x,.bool b,h=>by simp only [Nw,beq_iff_eq] at h; subst h; simp only [Zi,Zj]; exact ⟨_,rfl,rfl⟩
  | .int k,x,.int k' n,h=>by
    simp only [Nw,Bool.and_eq_true,decide_eq_true_eq] at h
    obtain ⟨rfl,rfl⟩:=h
    simp only [Zi,Zj]; exact ⟨_,rfl,rfl⟩
  | .str,x,.string s,h=>by
    simp only [Nw,decide_eq_true_eq] at h
    have:x=s:=by
      obtain ⟨⟨l⟩⟩:=x
      obtain ⟨⟨m⟩⟩:=s
      simpa using h
    subst this
    simp only [Zi,Zj]; exact ⟨_,rfl,rfl⟩
  | .sl e,x,.slice a 0 c,h=>by
    simp only [Nw,List.isEmpty_iff] at h
    subst h
    simp only [Zi,Zj]
    exact ⟨[.slice a 0 c],⟨a,0,c,rfl,by simp,fun _=>⟨rfl,by simp⟩⟩,rfl⟩
theorem X3 {A:Nat→Prop} {ρ:Xc} {w:World} {s:Nat→SV} {a:Act} (hs:Xe A ρ w s a):{x:Opd}→{y:Operand}→Xh x y=true→Zi A ρ w (evO s x) (a.eval y)
  | .t i,.tmp j,h=>by
    have:=Nat.eq_of_beq_eq_true (by simpa only [Xh] using h)
    subst this
    exact hs i
  | .c τ x,.const v,h=>AC5 τ x v h
  | .f f,.func g,h=>by
    have:=Nat.eq_of_beq_eq_true (by simpa only [Xh] using h)
    subst this
    simp only [evO,Zi]
    exact ⟨[],rfl,by simp only [Zm]⟩
  | .nf,.const .nilFunc,_=>by simp only [evO,Zi]; rfl
  | .g k,.global g,h=>by
    have:=Nat.eq_of_beq_eq_true (by simpa only [Xh] using h)
    subst this
    simp only [evO,Zi]; rfl
theorem T8 {A:Nat→Prop} {ρ:Xc} {w:World} {s:Nat→SV} {a:Act} (hs:Xe A ρ w s a):{xs:List Opd}→{ys:List Operand}→Jk xs ys=true→Zm A ρ w (xs.map (evO s)) (ys.map a.eval)
  | [],[],_=>by simp only [List.map_nil,Zm]
  | x :: r,y :: t,h=>by
    simp only [Jk,Bool.and_eq_true] at h
    simp only [List.map_cons,Zm]
    exact ⟨_,_,rfl,X3 hs h.1,T8 hs h.2⟩
end Go.Proofs.YtpemapoblhleoaaGreatDoor.Ghost
namespace Go.Proofs.YtpemapoblhleoaaGreatDoor.Ghost
open Go
def Yc (h:Nat→Obj):Eff→Nat→Obj
  | []=>h
  | (g,o) :: r=>Yc (fun i=>if i=g then o else h i) r
theorem Wm:(h:Y5)→(g i:Nat)→(o:Obj)→Xo (Rn h g o) i=if i=g then o else Xo h i
  | [],0,0,o=>by simp [Rn,Xo]
  | [],0,i+1,o=>by simp [Rn,Xo]
  | [],g+1,0,o=>by simp [Rn,Xo]
  | [],g+1,i+1,o=>by
    have:=Wm [] g i o
    simp only [Rn,Xo,this,Nat.add_right_cancel_iff]
  | x :: r,0,0,o=>by simp [Rn,Xo]
  | x :: r,0,i+1,o=>by simp [Rn,Xo]
  | x :: r,g+1,0,o=>by simp [Rn,Xo]
  | x :: r,g+1,i+1,o=>by
    have:=Wm r g i o
    simp only [Rn,Xo,this,Nat.add_right_cancel_iff]
theorem O6 (h:Y5):(e:Eff)→Xo (Pg h e)=Yc (Xo h) e
  | []=>rfl
  | (g,o) :: r=>by
    have h1:=O6 (Rn h g o) r
    simp only [Pg,Yc,h1]
    congr 1
    funext i
    rw [Wm]
def Zr (P:Program) (o:Oper) (a:Act) (w:World) (B:Nat) (w0:Y6) (A:Nat→Prop) (ρ:Xc) (v:SV) (h':Nat→Obj):Prop :=
  ∀ (next:Act→World→Prop) (Q:Exit→Act→World→Prop),
    (∀ v' w' A' ρ' own',St B w0 A' ρ' own' w' h'→Ye A ρ w A' ρ' w'→Zi A' ρ' w' v v'→next (a.put o.dst v') w')→o.wp P a w next Q
section
variable {P:Program} {o:Oper} {a:Act} {w:World} {B:Nat} {w0:Y6} {A:Nat→Prop} {ρ:Xc} {own:Nat→Option Nat} {h:Nat→Obj} {s:Nat→SV}
theorem Zr.pure {v:SV} {v':Value} (st:St B w0 A ρ own w h) (he:(execOp a.eval o).run P w=.ok (.value v') w) (hv:Zi A ρ w v v') :
    Zr P o a w B w0 A ρ v h:=fun next Q K=>by
  unfold Oper.wp; rw [he]; exact K v' w A ρ own st (Ye.refl ..) hv
theorem Zr.value {v:SV} {v':Value} {w':World} {A':Nat→Prop} {ρ':Xc} {own':Nat→Option Nat} {h':Nat→Obj} (he:(execOp a.eval o).run P w=.ok (.value v') w')
    (st:St B w0 A' ρ' own' w' h') (hl:Ye A ρ w A' ρ' w') (hv:Zi A' ρ' w' v v'):Zr P o a w B w0 A ρ v h':=fun next Q K=>by
  unfold Oper.wp; rw [he]; exact K v' w' A' ρ' own' st hl hv
theorem Zr.skip {v:SV} {w':World} {A':Nat→Prop} {ρ':Xc} {own':Nat→Option Nat} {h':Nat→Obj} (he:(execOp a.eval o).run P w=.ok .skip w')
    (st:St B w0 A' ρ' own' w' h') (hl:Ye A ρ w A' ρ' w') (hv:Zi A' ρ' w' v undef):Zr P o a w B w0 A ρ v h':=fun next Q K=>by
  unfold Oper.wp; rw [he]; exact K undef w' A' ρ' own' st hl hv
theorem Hq {k:IntKind} {n:Int} {ov:Ov} {v:Value} (h:Zi A ρ w (.dat (.int k) n ov) v):v=.int k n:=by
  simp only [Zi,Zj] at h; obtain ⟨_,rfl,rfl⟩:=h; rfl
theorem Vp {b:Bool} {ov:Ov} {v:Value} (h:Zi A ρ w (.dat .bool b ov) v):v=.bool b:=by
  simp only [Zi,Zj] at h; obtain ⟨_,rfl,rfl⟩:=h; rfl
theorem H8 {k:IntKind} {n:Int} {ov:Ov}:Zi A ρ w (.dat (.int k) n ov) (.int k n):=by
  simp only [Zi,Zj]; exact ⟨_,rfl,rfl⟩
theorem Hj {b:Bool} {ov:Ov}:Zi A ρ w (.dat .bool b ov) (.bool b):=by
  simp only [Zi,Zj]; exact ⟨_,rfl,rfl⟩
theorem AEn {v:Value} (h:Zi A ρ w .und v):v=undef:=by simpa only [Zi] using h
def ABk (o:Oper) (x:Opd):Bool:=match o.op with
  | .move y=>Xh x y
  | .assign y=>Xh x y
  | _=>false
variable (st:St B w0 A ρ own w h) (hs:Xe A ρ w s a)
include st hs
theorem AIi {x:Opd} (hc:ABk o x=true):Zr P o a w B w0 A ρ (evO s x) h:=by
  unfold ABk at hc
  split at hc
  · rename_i y hy
    exact Zr.pure st (by simp [execOp,hy]) (X3 hs hc)
  · rename_i y hy
    exact Zr.pure st (by simp [execOp,hy]) (X3 hs hc)
  · cases hc
def Dg (o:Oper) (c x y:Opd):Bool:=match o.op with
  | .pick c' x' y'=>Xh c c' && Xh x x' && Xh y y'
  | _=>false
omit st hs in
theorem ABm {c x y:Opd} (hc:Dg o c x y=true):∃ c' x' y',o.op=.pick c' x' y'∧Xh c c'=true∧Xh x x'=true∧Xh y y'=true:=by
  unfold Dg at hc
  split at hc
  · rename_i c' x' y' ho
    simp only [Bool.and_eq_true] at hc
    exact ⟨c',x',y',ho,hc.1.1,hc.1.2,hc.2⟩
  · cases hc
theorem Fl {c x y:Opd} (hc:Dg o c x y=true) {t:Bool} {ov:Ov} (ht:evO s c=.dat .bool t ov) {v:SV}
    (hv:∀ u u',Zi A ρ w (evO s x) u→Zi A ρ w (evO s y) u'→Zi A ρ w v (if t then u else u')):Zr P o a w B w0 A ρ v h:=by
  obtain ⟨c',x',y',ho,h1,h2,h3⟩:=ABm hc
  have k1:=X3 hs h1
  rw [ht] at k1
  have k1:=Vp k1
  exact Zr.pure st (by simp [execOp,ho,k1,asBool]) (hv _ _ (X3 hs h2) (X3 hs h3))
def ABb (o:Oper) (op:BinOp) (x y:Opd):Bool:=match o.op with
  | .binOp op' _ x' y' _=>decide (op'=op) && Xh x x' && Xh y y'
  | _=>false
omit st hs in
theorem AC2 {op:BinOp} {x y:Opd} (hc:ABb o op x y=true):∃ t x' y' t',o.op=.binOp op t x' y' t'∧Xh x x'=true∧Xh y y'=true:=by
  unfold ABb at hc
  split at hc
  · rename_i op' t x' y' t' ho
    simp only [Bool.and_eq_true,decide_eq_true_eq] at hc
    obtain ⟨⟨rfl,h1⟩,h2⟩:=hc
    exact ⟨t,x',y',t',ho,h1,h2⟩
  · cases hc
omit st hs in
theorem Dd (op:BinOp) (t:TypeId) (x y:Operand) (k k':IntKind) (m n:Int):(eqGuard op t x y (.int k m) (.int k' n)).run P w=.ok () w:=by
  unfold eqGuard; cases op <;> rfl
omit st hs in
theorem R9 (op:BinOp) (t:TypeId) (x y:Operand) (m n:Bool):(eqGuard op t x y (.bool m) (.bool n)).run P w=.ok () w:=by
  unfold eqGuard; cases op <;> rfl
omit st hs in
theorem Od (op:BinOp) (t:TypeId) (x y:Operand) (m n:ByteArray):(eqGuard op t x y (.string m) (.string n)).run P w=.ok () w:=by
  unfold eqGuard; cases op <;> rfl
theorem ALc {R:Type} {op:BinOp} {x y:Opd} {K:SV→Option R} {r:R}
    (hc:ABb o op x y=true) (hg:AHq op (evO s x) (evO s y) K=some r) :
    ∃ v,K v=some r∧Zr P o a w B w0 A ρ v h:=by
  obtain ⟨t,x',y',t',ho,h1,h2⟩:=AC2 hc
  have k1:=X3 hs h1
  have k2:=X3 hs h2
  unfold AHq at hg
  split at hg
  · rename_i k m ov k' n ov' e1 e2
    rw [e1] at k1; rw [e2] at k2
    have k1:=Hq k1
    have k2:=Hq k2
    split at hg
    · rename_i hk
      subst hk
      have fin:∀ v:Value,(Go.binOp op t (.int k m) (.int k n)).run P w=.ok v w→(execOp a.eval o).run P w=.ok (.value v) w:=fun v hv=>by
        simp only [execOp,ho,k1,k2,Sem.run_bind,Dd,Result.andThen_ok,hv,Sem.run_pure]
      unfold Dx at hg
      split at hg
      · exact ⟨_,hg,Zr.pure st (fin _ (by simp [Go.binOp,Op.intArith])) H8⟩
      · exact ⟨_,hg,Zr.pure st (fin _ (by simp [Go.binOp,Op.intArith])) H8⟩
      · exact ⟨_,hg,Zr.pure st (fin _ (by simp [Go.binOp,Op.intArith])) H8⟩
      · split at hg
        · cases hg
        · rename_i hn
          exact ⟨_,hg,Zr.pure st (fin _ (by simp [Go.binOp,Op.intDiv,hn])) H8⟩
      · split at hg
        · cases hg
        · rename_i hn
          exact ⟨_,hg,Zr.pure st (fin _ (by simp [Go.binOp,Op.intDiv,hn])) H8⟩
      · exact ⟨_,hg,Zr.pure st (fin _ (by simp [Go.binOp,Op.intCmp]; try rfl)) Hj⟩
      · exact ⟨_,hg,Zr.pure st (fin _ (by simp [Go.binOp,Op.intCmp,bne]; try rfl)) Hj⟩
      · exact ⟨_,hg,Zr.pure st (fin _ (by simp [Go.binOp,Op.intCmp]; try rfl)) Hj⟩
      · exact ⟨_,hg,Zr.pure st (fin _ (by simp [Go.binOp,Op.intCmp]; try rfl)) Hj⟩
      · exact ⟨_,hg,Zr.pure st (fin _ (by simp [Go.binOp,Op.intCmp]; try rfl)) Hj⟩
      · exact ⟨_,hg,Zr.pure st (fin _ (by simp [Go.binOp,Op.intCmp]; try rfl)) Hj⟩
      · cases hg
    · cases hg
  · cases hg
end
end Go.Proofs.YtpemapoblhleoaaGreatDoor.Ghost
namespace Go.Proofs.YtpemapoblhleoaaGreatDoor.Ghost
open Go
section
variable {P:Program} {o:Oper} {a:Act} {w:World} {B:Nat} {w0:Y6} {A:Nat→Prop} {ρ:Xc} {own:Nat→Option Nat} {h:Nat→Obj} {s:Nat→SV}
def AFf (o:Oper) (x:Opd):Bool:=match o.op with
  | .unOp .not _ y=>Xh x y
  | _=>false
def AFe (o:Oper) (x:Opd):Bool:=match o.op with
  | .unOp .neg _ y=>Xh x y
  | _=>false
def isI (P:Program) (k:IntKind) (t:TypeId):Bool:=match P.underlying t with
  | some (.int k')=>decide (k'=k)
  | _=>false
def ABd (P:Program) (o:Oper) (k:IntKind) (x:Opd):Bool:=match o.op with
  | .convert src dst y=>isI P k dst && (P.underlying src).isSome && Xh x y
  | _=>false
def Mw (o:Oper) (x:Opd) (i:Nat):Bool:=match o.op with
  | .extract y j=>Nat.beq i j && Xh x y
  | _=>false
def ABf (o:Oper) (f:FuncId) (caps:List Opd):Bool:=match o.op with
  | .makeFunc (.func g) first captured=>Nat.beq f g && first.toList.isEmpty && Jk caps captured.toList
  | _=>false
def Ou (o:Oper) (b:Builtin→Bool) (xs:List Opd):Bool:=match o.op with
  | .call c=>(match c.callee with | .builtin b'=>b b' | _=>false) && Jk xs c.args.toList
  | _=>false
def ALr (P:Program) (o:Oper):Bool:=match o.op with
  | .call c=>(match c.argTypes.toList with
    | t :: _=>(match P.underlying t with | some .string=>true | _=>false)
    | []=>false)
  | _=>false
def ALq (P:Program) (o:Oper):Bool:=match o.op with
  | .call c=>(match c.argTypes.toList with | t :: _=>(match P.underlying t with | some (.slice _)=>true | _=>false) | _=>false)
  | _=>false
theorem ALn {k:IntKind} {t:TypeId} (h:isI P k t=true):P.underlying t=some (.int k):=by
  unfold isI at h
  split at h
  · rename_i k' hk; rw [hk]; simp at h; rw [h]
  · cases h
variable (st:St B w0 A ρ own w h) (hs:Xe A ρ w s a)
include st hs
theorem ALj {x:Opd} (hc:AFf o x=true) {b:Bool} {ov:Ov} (hx:evO s x=.dat .bool b ov):Zr P o a w B w0 A ρ (.dat .bool (!b) []) h:=by
  unfold AFf at hc
  split at hc
  · rename_i t y ho
    have k:=X3 hs hc
    rw [hx] at k
    have k:=Vp k
    exact Zr.pure st (by simp [execOp,ho,k,Op.unary]) Hj
  · cases hc
theorem ALi {x:Opd} (hc:AFe o x=true) {k:IntKind} {n:Int} {ov:Ov} (hx:evO s x=.dat (.int k) n ov):Zr P o a w B w0 A ρ (.dat (.int k) (k.wrap (0 - n)) []) h:=by
  unfold AFe at hc
  split at hc
  · rename_i t y ho
    have k1:=X3 hs hc
    rw [hx] at k1
    have k1:=Hq k1
    exact Zr.pure st (v':=.int k (k.wrap (0 - n))) (by simp only [execOp,ho,k1,Op.unary,Op.intArith,Sem.run_bind,Sem.run_pure,Result.andThen_ok]) H8
  · cases hc
theorem AIc {x:Opd} {k:IntKind} (hc:ABd P o k x=true) {k':IntKind} {n:Int} {ov:Ov} (hx:evO s x=.dat (.int k') n ov):Zr P o a w B w0 A ρ (.dat (.int k) (k.wrap n) []) h:=by
  unfold ABd at hc
  split at hc
  · rename_i src dst y ho
    simp only [Bool.and_eq_true] at hc
    have k1:=X3 hs hc.2
    rw [hx] at k1
    have k1:=Hq k1
    obtain ⟨d,hd⟩:=Option.isSome_iff_exists.1 hc.1.2
    have hi:=ALn hc.1.1
    refine Zr.pure st (v':=.int k (k.wrap n)) ?_ H8
    simp only [execOp,ho,k1,convert,Sem.run_bind,run_underlying hd w,run_underlying hi w,Result.andThen_ok,Conv.intToInt,Sem.run_pure]
  · cases hc
theorem ABx {x:Opd} {i:Nat} (hc:Mw o x i=true) {us:List SV} {u:SV} (hx:evO s x=.tup us) (hu:us[i]?=some u):Zr P o a w B w0 A ρ u h:=by
  unfold Mw at hc
  split at hc
  · rename_i y j ho
    simp only [Bool.and_eq_true] at hc
    have hij:=Nat.eq_of_beq_eq_true hc.1
    subst hij
    have k1:=X3 hs hc.2
    rw [hx] at k1
    simp only [Zi] at k1
    obtain ⟨vs,k1,k2⟩:=k1
    have get:∀ (us:List SV) (vs:List Value) (i:Nat),Zm A ρ w us vs→us[i]?=some u→∃ v,vs[i]?=some v∧Zi A ρ w u v:=by
      intro us
      induction us with
      | nil=>intro vs i _ h; simp at h
      | cons u' r ih =>
        intro vs i h1 h2
        simp only [Zm] at h1
        obtain ⟨v,vs',rfl,h3,h4⟩:=h1
        cases i with
        | zero=>simp at h2; subst h2; exact ⟨v,by simp,h3⟩
        | succ i=>simpa using ih vs' i h4 (by simpa using h2)
    obtain ⟨v,m1,m2⟩:=get us vs i k2 hu
    refine Zr.pure st (v':=v) ?_ m2
    simp [execOp,ho,k1,Instr.extract,m1]
  · cases hc
theorem AId {f:FuncId} {caps:List Opd} (hc:ABf o f caps=true):Zr P o a w B w0 A ρ (.clo f (caps.map (evO s))) h:=by
  unfold ABf at hc
  split at hc
  · rename_i g first captured ho
    simp only [Bool.and_eq_true,List.isEmpty_iff] at hc
    have hij:=Nat.eq_of_beq_eq_true hc.1.1
    subst hij
    have k1:=T8 hs hc.2
    have hf:first = #[]:=by simpa using hc.1.2
    subst hf
    refine Zr.pure st (v':=.func (.func f) #[] (captured.map a.eval)) ?_ ?_
    · simp [execOp,ho,Instr.makeFunc]
    · simp only [Zi]
      exact ⟨_,by rw [← Array.toList_map],k1⟩
  · cases hc
omit st hs in
theorem W9 {b:Builtin→Bool} {xs:List Opd} (hc:Ou o b xs=true):∃ c b',o.op=.call c∧c.callee=.builtin b'∧b b'=true∧Jk xs c.args.toList=true:=by
  unfold Ou at hc
  split at hc
  · rename_i c ho
    simp only [Bool.and_eq_true] at hc
    cases hb:c.callee with
    | builtin b'=>simp only [hb] at hc; exact ⟨c,b',ho,hb,hc.1,hc.2⟩
    | value f=>simp [hb] at hc
    | invoke f m=>simp [hb] at hc
  · cases hc
omit st hs in
theorem U2 {c:Call} {b:Builtin} (ho:o.op=.call c) (hb:c.callee=.builtin b) :
    (execOp a.eval o).run P w=(builtin b c.argTypes o.type (c.args.map fun | .const _=>true | _=>false) (c.args.map a.eval)).run P w:=by
  simp [execOp,ho,Go.resolve,hb,invoke]; rfl
theorem AIf {x:Opd} (hc:Ou o (fun | .len=>true | _=>false) [x]=true) (ht:ALr P o=true) {y:ByteArray} {ov:Ov} (hx0:evO s x=.dat .str y ov):Zr P o a w B w0 A ρ (.dat (.int .i64) ((ByteArray.size y:Nat):Int) []) h:=by
  obtain ⟨c,b,ho,hb,hbb,hx⟩:=W9 hc
  cases b <;> simp at hbb
  simp only [ALr,ho] at ht
  have hx':∃ y,c.args.toList=[y]∧Xh x y=true:=by
    cases hl:c.args.toList with
    | nil=>rw [hl] at hx; simp [Jk] at hx
    | cons y r=>cases r with
      | nil=>rw [hl] at hx; simp [Jk] at hx; exact ⟨y,rfl,hx⟩
      | cons z r=>rw [hl] at hx; simp [Jk] at hx
  obtain ⟨z,hy,hxy⟩:=hx'
  have hargs:c.args = #[z]:=by rw [← Array.toArray_toList (xs:=c.args),hy]
  cases htl:c.argTypes.toList with
  | nil=>simp [htl] at ht
  | cons t tr =>
    simp only [htl] at ht
    have ht0:c.argTypes[0]?=some t:=by rw [← Array.getElem?_toList,htl]; rfl
    have hu:P.underlying t=some .string:=by
      split at ht
      · rename_i he; exact he
      · cases ht
    have k1:=X3 hs hxy
    rw [hx0] at k1
    simp only [Zi,Zj] at k1
    obtain ⟨cs,rfl,hv⟩:=k1
    have hv:a.eval z=.string y:=hv
    refine Zr.pure st (v':=.int .i64 ((ByteArray.size y:Nat):Int)) ?_ H8
    rw [U2 ho hb,hargs]
    simp only [builtin,Builtin.len_,List.map_toArray,List.map_cons,List.map_nil,hv,ht0,Sem.run_bind]
    simp [run_underlying hu w,goInt]
theorem ALf {x:Opd} (hc:Ou o (fun | .len=>true | _=>false) [x]=true) (ht:ALq P o=true) {R:Type} {K:SV→Option R} {r:R} (hg:AB3 h (evO s x) K=some r) :
    ∃ v,K v=some r∧Zr P o a w B w0 A ρ v h:=by
  obtain ⟨c,b,ho,hb,hbb,hx⟩:=W9 hc
  cases b <;> simp at hbb
  simp only [ALq,ho] at ht
  have hx':∃ y,c.args.toList=[y]∧Xh x y=true:=by
    cases hl:c.args.toList with
    | nil=>rw [hl] at hx; simp [Jk] at hx
    | cons y r=>cases r with
      | nil=>rw [hl] at hx; simp [Jk] at hx; exact ⟨y,rfl,hx⟩
      | cons z r=>rw [hl] at hx; simp [Jk] at hx
  obtain ⟨y,hy,hxy⟩:=hx'
  have hargs:c.args = #[y]:=by rw [← Array.toArray_toList (xs:=c.args),hy]
  cases htl:c.argTypes.toList with
  | nil=>simp [htl] at ht
  | cons t tr =>
    simp only [htl] at ht
    have ht0:c.argTypes[0]?=some t:=by rw [← Array.getElem?_toList,htl]; rfl
    have hu:∃ e,P.underlying t=some (.slice e):=by
      split at ht
      · rename_i e he; exact ⟨e,he⟩
      · cases ht
    obtain ⟨e,hu⟩:=hu
    have k1:=X3 hs hxy
    have fin:∀ (ad:Option Addr) (n m:Nat),a.eval y=.slice ad n m→(execOp a.eval o).run P w=.ok (.value (.int .i64 n)) w:=fun ad n m hv=>by
      rw [U2 ho hb,hargs]
      simp only [builtin,Builtin.len_,List.map_toArray,List.map_cons,List.map_nil,hv,ht0,Sem.run_bind]
      simp [run_underlying hu w,goInt]
    unfold AB3 at hg
    split at hg
    · rename_i el l e1
      rw [e1] at k1
      simp only [Zi,Zj] at k1
      obtain ⟨cs,⟨ad,n,m,rfl,_,h3⟩,hv⟩:=k1
      have hn:=(h3 (by simp)).1
      subst hn
      exact ⟨_,hg,Zr.pure st (fin ad _ m hv) H8⟩
    · rename_i el l0 g e1
      rw [e1] at k1
      simp only [Zi,Zj] at k1
      obtain ⟨cs,⟨ad,n,m,rfl,h2,_⟩,hv⟩:=k1
      obtain ⟨sp,ad',hr,_,heq,_⟩:=h2 g (by simp)
      have ob:=st.objs g
      split at hg
      · rename_i el' l e2
        rw [e2] at ob
        simp only [Vh,Vy] at ob
        obtain ⟨sp',hr',_,_,_,_,_,hl,_⟩:=ob
        rw [hr] at hr'
        cases hr'
        cases heq
        refine ⟨_,hg,Zr.pure st (fin _ _ _ hv) ?_⟩
        rw [hl]; exact H8
      · rename_i el' l e2
        rw [e2] at ob
        simp only [Vh,Vy] at ob
        obtain ⟨sp',hr',_,_,_,_,_,hl,_⟩:=ob
        rw [hr] at hr'
        cases hr'
        cases heq
        refine ⟨_,hg,Zr.pure st (fin _ _ _ hv) ?_⟩
        rw [hl]; exact H8
      · cases hg
    · rename_i us e1
      rw [e1] at k1
      simp only [Zi] at k1
      obtain ⟨ad,n,m,hv,hn,_⟩:=k1
      subst hn
      exact ⟨_,hg,Zr.pure st (fin _ _ _ hv) H8⟩
    · cases hg
end
end Go.Proofs.YtpemapoblhleoaaGreatDoor.Ghost
namespace Go.Proofs.YtpemapoblhleoaaGreatDoor.Ghost
open Go
mutual
theorem Tj:(τ:Ty)→(p q:Z3)→(x:den τ)→(d:Dyn)→okP τ p→getP p τ x=some d→okP d.τ q→okP τ (p ++ q)∧Q6 τ (p ++ q)=Q6 τ p+Q6 d.τ q
  | τ,[],q,x,d,_,h,hq=>by
    have:d=⟨τ,x⟩:=by cases τ <;> simpa [getP,eq_comm] using h
    subst this
    have h0:Q6 τ []=0:=by cases τ <;> rfl
    exact ⟨hq,by rw [h0,Nat.zero_add]; rfl⟩
  | .st fs,i :: p,q,x,d,hk,h,hq=>by
    simp only [okP] at hk
    simp only [getP] at h
    simp only [List.cons_append,okP,Q6]
    exact Bd fs i p q x d hk h hq
  | .arr n e,i :: p,q,x,d,hk,h,hq=>by
    simp only [okP] at hk
    simp only [getP] at h
    simp only [List.cons_append,okP,Q6]
    have:=Tj e p q _ d hk.2 h hq
    exact ⟨⟨hk.1,this.1⟩,by rw [this.2]; omega⟩
  | .bool,_ :: _,_,_,_,hk,_,_=>by simp [okP] at hk
  | .int _,_ :: _,_,_,_,hk,_,_=>by simp [okP] at hk
  | .str,_ :: _,_,_,_,hk,_,_=>by simp [okP] at hk
  | .sl _,_ :: _,_,_,_,hk,_,_=>by simp [okP] at hk
theorem Bd:(fs:List Ty)→(i:Nat)→(p q:Z3)→(x:K1 fs)→(d:Dyn)→okF fs i p →
    (match Gj fs i x with | some d=>getP p d.τ d.x | none=>none)=some d→okP d.τ q→okF fs i (p ++ q)∧Gn fs i (p ++ q)=Gn fs i p+Q6 d.τ q
  | [],_,_,_,_,_,hk,_,_=>by simp [okF] at hk
  | t :: r,0,p,q,x,d,hk,h,hq=>by
    simp only [okF] at hk
    simp only [Gj] at h
    simp only [okF,Gn]
    exact Tj t p q x.1 d hk h hq
  | t :: r,n+1,p,q,x,d,hk,h,hq=>by
    simp only [okF] at hk
    simp only [Gj] at h
    simp only [okF,Gn]
    have:=Bd r n p q x.2 d hk h hq
    exact ⟨this.1,by rw [this.2]; omega⟩
end
theorem Pq {P:Program}:(fs:List Ty)→(l:List Field)→(o j:Nat)→Qw P fs o l=true→j<fs.length →
    ∃ f t,l[j]?=some f∧fs[j]?=some t∧f.offset=o+Gn fs j []∧Jj P f.type (Zg t)=true∧0<Zg t∧Xp P t f.type=true∧okF fs j []
  | [],_,_,_,_,hj=>by simp at hj
  | _ :: _,[],_,_,h,_=>by simp [Qw] at h
  | t :: r,f :: s,o,0,h,_=>by
    simp only [Qw,Bool.and_eq_true] at h
    obtain ⟨⟨⟨⟨h1,h2⟩,h3⟩,h4⟩,_⟩:=h
    have h0:Q6 t []=0:=by cases t <;> rfl
    have k0:okP t []:=by cases t <;> trivial
    exact ⟨f,t,rfl,rfl,by simp only [Gn,h0]; exact Nat.eq_of_beq_eq_true h1,h2,by simpa [Nat.blt_eq] using h3,h4,k0⟩
  | t :: r,f :: s,o,j+1,h,hj=>by
    simp only [Qw,Bool.and_eq_true] at h
    obtain ⟨f',t',h1,h2,h3,h4⟩:=Pq r s (o+Zg t) j h.2 (by simpa using hj)
    exact ⟨f',t',by simpa using h1,by simpa using h2,by simp only [Gn]; omega,h4⟩
theorem Az:(fs:List Ty)→(j:Nat)→(x:K1 fs)→(d:Dyn)→Gj fs j x=some d→fs[j]?=some d.τ
  | [],_,_,_,h=>by simp [Gj] at h
  | t :: r,0,x,d,h=>by simp [Gj] at h; subst h; rfl
  | t :: r,n+1,x,d,h=>by simp only [Gj] at h; simpa using Az r n x.2 d h
theorem AK8 {fs:List Ty} {j:Nat} {x:K1 fs} {d:Dyn} (h:getP [j] (.st fs) x=some d):Gj fs j x=some d:=by
  simp only [getP] at h
  split at h
  · rename_i d' hd
    rw [hd]
    have:getP [] d'.τ d'.x=some d':=by
      obtain ⟨τ,y⟩:=d'
      cases τ <;> rfl
    exact this.symm.trans h
  · cases h
theorem Kv {w:World} {b o:Nat} {cs:List Value} (h:w.rangeAt b o cs) (k n:Nat):w.rangeAt b (o+k) (cut cs k n):=fun j v hv=>by
  rw [Qs] at hv
  split at hv
  · have:=h (k+j) v hv
    rw [show o+(k+j)=o+k+j by omega] at this
    exact this
  · cases hv
theorem ADj (cs:Array Value) (o n:Nat):(cs.extract o (o+n))=(cut cs.toList o n).toArray:=by
  apply Array.ext'
  rw [Array.toList_extract]
  simp [cut]
section
variable {P:Program} {o:Oper} {a:Act} {w:World} {B:Nat} {w0:Y6} {A:Nat→Prop} {ρ:Xc} {own:Nat→Option Nat} {h:Nat→Obj} {s:Nat→SV}
theorem Ap {τ:Ty} {x:den τ} {ov:Ov} {cs:List Value} (hr:Zj A ρ w τ x ov cs) (ha:G0 τ=false):∃ v,cs=[v]:=by
  have:=Zj.length τ hr
  have h1:Zg τ=1:=by cases τ <;> simp [G0] at ha <;> rfl
  rw [h1] at this
  match cs,this with
  | [v],_=>exact ⟨v,rfl⟩
theorem Pa {τ:Ty} {t:TypeId} {cs:Array Value} {off:Nat} {x:den τ} {ov:Ov} (hd:Xp P τ t=true) (hz:Jj P t (Zg τ)=true)
    (hr:Zj A ρ w τ x ov (cut cs.toList off (Zg τ))):(part t cs off).run P w=.ok (mkV τ (cut cs.toList off (Zg τ))) w:=by
  obtain ⟨d,h1,h2⟩:=Ei hd
  unfold part
  rw [Sem.run_bind,Bt h1 w,Result.andThen_ok,h2]
  cases ha:G0 τ with
  | true =>
    simp only [if_true,Sem.run_bind,J0 hz,Result.andThen_ok,Sem.run_pure,mkV,ha,ADj]
  | false =>
    obtain ⟨v,hv⟩:=Ap hr ha
    have h3:(cut cs.toList off (Zg τ))[0]?=some v:=by rw [hv]; rfl
    rw [Qs] at h3
    split at h3
    · simp only [Nat.add_zero,Array.getElem?_toList] at h3
      simp [h3,mkV,ha,hv]
    · cases h3
def D4 (P:Program) (o:Oper) (τ:Ty) (j:Nat) (x:Opd):Bool:=match o.op with
  | .field T y i=>Nat.beq i j && Xp P τ T && (match τ with | .st _=>true | _=>false) && Xh x y
  | _=>false
theorem AFn (st:St B w0 A ρ own w h) (hs:Xe A ρ w s a) {τ:Ty} {j:Nat} {x:Opd} (hc:D4 P o τ j x=true) {y:den τ} {ov:Ov} (hx:evO s x=.dat τ y ov)
    {d:Dyn} (hg:getP [j] τ y=some d):Zr P o a w B w0 A ρ (.dat d.τ d.x (Jm [j] ov)) h:=by
  unfold D4 at hc
  split at hc
  · rename_i T z i ho
    simp only [Bool.and_eq_true] at hc
    obtain ⟨⟨⟨hi,hd⟩,hst⟩,hxz⟩:=hc
    have hi:=Nat.eq_of_beq_eq_true hi
    subst hi
    cases τ with
    | st fs =>
      have k1:=X3 hs hxz
      rw [hx] at k1
      simp only [Zi] at k1
      obtain ⟨cs,k1,k2⟩:=k1
      simp only [mkV,G0] at k2
      have hf:=AK8 hg
      have hty:=Az fs i y d hf
      have hlt:i<fs.length:=(List.getElem?_eq_some_iff.1 hty).1
      simp only [Xp] at hd
      cases hu:P.underlying T with
      | none=>simp [hu] at hd
      | some dd =>
        cases dd with
        | struct l =>
          simp only [hu] at hd
          obtain ⟨f,t,m1,m2,m3,m4,m5,m6,m7⟩:=Pq fs l.toList 0 i hd hlt
          rw [hty] at m2
          cases m2
          have hp:=Zj.getP (.st fs) [i] k1 (by simpa only [okP] using m7) hg
          have m1':l[i]?=some f:=by rw [← Array.getElem?_toList]; exact m1
          have hoff:f.offset=Q6 (.st fs) [i]:=by rw [m3,Nat.zero_add]; rfl
          rw [← hoff] at hp
          have hpart:=Pa (P:=P) (cs:=cs.toArray) (off:=f.offset) m6 m4 (by simpa using hp)
          refine Zr.pure st (v':=mkV d.τ (cut cs f.offset (Zg d.τ))) ?_ (by simp only [Zi]; exact ⟨_,hp,rfl⟩)
          simp only [execOp,ho,k2,Instr.field,Sem.run_bind,run_underlying hu w,Result.andThen_ok,m1',asAgg,Sem.run_pure,hpart]
        | _=>simp [hu] at hd
    | _=>simp at hst
  · cases hc
end
end Go.Proofs.YtpemapoblhleoaaGreatDoor.Ghost
namespace Go.Proofs.YtpemapoblhleoaaGreatDoor.Ghost
open Go
section
variable {P:Program} {o:Oper} {a:Act} {w:World} {B:Nat} {w0:Y6} {A:Nat→Prop} {ρ:Xc} {own:Nat→Option Nat} {h:Nat→Obj} {s:Nat→SV}
def Hr (P:Program):List Nat→Nat→List Field→Bool
  | [],_,[]=>true
  | n :: r,o,f :: s=>Nat.beq f.offset o && Jj P f.type n && Nat.blt 0 n && Hr P r (o+n) s
  | _,_,_=>false
def APz (P:Program):FT→TypeId→Bool
  | .d (.st fs),t=>Xp P (.st fs) t
  | .d _,_=>false
  | .v sizes,t=>(match P.underlying t with | some (.struct l)=>Hr P sizes 0 l.toList | _=>false)
def Pk (P:Program) (o:Oper) (t:FT) (j:Nat) (x:Opd):Bool:=match o.op with
  | .fieldAddr T y i=>Nat.beq i j && APz P t T && Xh x y
  | _=>false
def U3:List Nat→Nat→Nat
  | [],_=>0
  | _ :: _,0=>0
  | n :: r,j+1=>n+U3 r j
theorem P4:(sizes:List Nat)→(l:List Field)→(o j:Nat)→Hr P sizes o l=true→j<sizes.length →
    ∃ f n,l[j]?=some f∧f.offset=o+U3 sizes j∧Jj P f.type n=true∧0<n
  | [],_,_,_,_,hj=>by simp at hj
  | _ :: _,[],_,_,h,_=>by simp [Hr] at h
  | n :: r,f :: s,o,0,h,_=>by
    simp only [Hr,Bool.and_eq_true] at h
    exact ⟨f,n,rfl,by rw [show U3 (n :: r) 0=0 from rfl,Nat.add_zero]; exact Nat.eq_of_beq_eq_true h.1.1.1,h.1.1.2,by simpa [Nat.blt_eq] using h.1.2⟩
  | n :: r,f :: s,o,j+1,h,hj=>by
    simp only [Hr,Bool.and_eq_true] at h
    obtain ⟨f',n',h1,h2,h3⟩:=P4 r s (o+n) j h.2 (by simpa using hj)
    exact ⟨f',n',by simpa using h1,by simp only [U3]; omega,h3⟩
theorem AEu {T:TypeId} {l:Array Field} {i:Nat} {f:Field} {n b k:Nat} (hu:P.underlying T=some (.struct l)) (hf:l[i]?=some f) (hn:Jj P f.type n=true) (hp:0<n) :
    (Instr.fieldAt T (.pointer (some ⟨b,k,none⟩)) i).run P w=.ok (.pointer (some ⟨b,k+f.offset,none⟩)) w:=by
  have:n≠0:=by omega
  simp only [Instr.fieldAt,Sem.run_bind,run_underlying hu w,Result.andThen_ok,hf,Instr.sureAddr,Sem.run_pure,fieldPlace,J0 hn,this,if_false,Addr.add_mid]
theorem Ft:{a b:List Nat}→X9.natsEq a b=true→a=b
  | [],[],_=>rfl
  | x :: r,y :: s,h=>by
    simp only [X9.natsEq,Bool.and_eq_true] at h
    rw [Nat.eq_of_beq_eq_true h.1,Ft h.2]
theorem Rj:(us:List SV)→(X9.sizesV us).length=us.length
  | []=>rfl
  | _ :: r=>by simp [X9.sizesV,Rj r]
theorem N8:(us:List SV)→(j:Nat)→Gv us j []=U3 (X9.sizesV us) j
  | [],_=>rfl
  | u :: r,0=>by
    have:Wa u []=0:=by cases u <;> rfl
    simp only [Gv,this,X9.sizesV,U3]
  | u :: r,j+1=>by simp only [Gv,X9.sizesV,U3,N8 r j]
theorem N1:(us:List SV)→(j:Nat)→getV.getVL us j []=us[j]?
  | [],_=>by simp [getV.getVL]
  | u :: r,0=>by cases u <;> simp [getV.getVL,getV]
  | u :: r,j+1=>by simp only [getV.getVL,N1 r j]; simp
mutual
theorem El:(u:SV)→(p q:Z3)→(x:SV)→getV u p=some x→getV u (p ++ q)=getV x q∧Wa u (p ++ q)=Wa u p+Wa x q
  | u,[],q,x,hg=>by
    have:u=x:=by cases u <;> simpa [getV] using hg
    subst this
    have:Wa u []=0:=by cases u <;> rfl
    exact ⟨rfl,by rw [this,Nat.zero_add]; rfl⟩
  | .agv us,i :: p,q,x,hg=>by
    simp only [getV] at hg
    have:=L0 us i p q x hg
    simpa only [List.cons_append,getV,Wa] using this
  | .dat _ _ _,_ :: _,_,_,hg=>by simp [getV] at hg
  | .ptr _ _,_ :: _,_,_,hg=>by simp [getV] at hg
  | .ref _ _,_ :: _,_,_,hg=>by simp [getV] at hg
  | .refv _,_ :: _,_,_,hg=>by simp [getV] at hg
  | .selfc _ _,_ :: _,_,_,hg=>by simp [getV] at hg
  | .glo _,_ :: _,_,_,hg=>by simp [getV] at hg
  | .elp _ _ _,_ :: _,_,_,hg=>by simp [getV] at hg
  | .clo _ _,_ :: _,_,_,hg=>by simp [getV] at hg
  | .tup _,_ :: _,_,_,hg=>by simp [getV] at hg
  | .slv _,_ :: _,_,_,hg=>by simp [getV] at hg
  | .fmap _ _,_ :: _,_,_,hg=>by simp [getV] at hg
  | .nilfn,_ :: _,_,_,hg=>by simp [getV] at hg
  | .und,_ :: _,_,_,hg=>by simp [getV] at hg
  | .junk,_ :: _,_,_,hg=>by simp [getV] at hg
theorem L0:(us:List SV)→(i:Nat)→(p q:Z3)→(x:SV)→getV.getVL us i p=some x→getV.getVL us i (p ++ q)=getV x q∧Gv us i (p ++ q)=Gv us i p+Wa x q
  | [],_,_,_,_,hg=>by simp [getV.getVL] at hg
  | u :: r,0,p,q,x,hg=>by
    simp only [getV.getVL] at hg
    simpa only [getV.getVL,Gv] using El u p q x hg
  | u :: r,n+1,p,q,x,hg=>by
    simp only [getV.getVL] at hg
    have:=L0 r n p q x hg
    simp only [getV.getVL,Gv]
    exact ⟨this.1,by rw [this.2]; omega⟩
end
theorem Hc {g:Nat} {p:Z3} {v:Value} {sp:Kx} (hv:Zi A ρ w (.ptr g p) v) (hr:ρ g=some sp) (hm:sp.mp=false):sp.ok p∧v=.pointer (some ⟨sp.b,sp.off p,none⟩):=by
  simp only [Zi] at hv
  obtain ⟨s',h1,h2,h3⟩:=hv
  rw [hr] at h1
  cases h1
  rw [hm] at h3
  exact ⟨h2,h3⟩
theorem AF2 {g:Nat} {p:Z3} {sp:Kx} (hr:ρ g=some sp) (hm:sp.mp=false) (hk:sp.ok p):Zi A ρ w (.ptr g p) (.pointer (some ⟨sp.b,sp.off p,none⟩)):=by
  simp only [Zi]
  exact ⟨sp,hr,hk,by rw [hm]⟩
theorem Bm {g i:Nat} {p:Z3} {v:Value} {sp:Kx} (hv:Zi A ρ w (.elp g i p) v) (hr:ρ g=some sp):i<sp.len∧sp.ok p∧v=.pointer (some ⟨sp.b,i * sp.es+sp.off p,none⟩):=by
  simp only [Zi] at hv
  obtain ⟨s',h1,_,h2,h3,h4⟩:=hv
  rw [hr] at h1
  cases h1
  exact ⟨h2,h3,h4⟩
variable (st:St B w0 A ρ own w h) (hs:Xe A ρ w s a)
include st hs
theorem C0 {t:FT} {j:Nat} {x:Opd} (hc:Pk P o t j x=true) {R:Type} {K:SV→Option R} {r:R} (hg:X9 h t j (evO s x) K=some r) :
    ∃ v,K v=some r∧Zr P o a w B w0 A ρ v h:=by
  unfold Pk at hc
  split at hc
  case h_2=>cases hc
  rename_i T y i ho
  simp only [Bool.and_eq_true] at hc
  obtain ⟨⟨hi,hT⟩,hxy⟩:=hc
  have hi:=Nat.eq_of_beq_eq_true hi
  subst hi
  have k1:=X3 hs hxy
  have fin:∀ (l:Array Field) (f:Field) (n b k:Nat) (v:SV),P.underlying T=some (.struct l)→l[i]?=some f→Jj P f.type n=true→0<n→a.eval y=.pointer (some ⟨b,k,none⟩) →
      Zi A ρ w v (.pointer (some ⟨b,k+f.offset,none⟩))→Zr P o a w B w0 A ρ v h:=fun l f n b k v h1 h2 h3 h4 h5 h6 =>
    Zr.pure st (by simp only [execOp,ho,h5,Sem.run_bind,AEu h1 h2 h3 h4,Result.andThen_ok,Sem.run_pure]) h6
  unfold X9 at hg
  cases t with
  | d σ =>
    cases σ with
    | st fs =>
      simp only [APz] at hT
      have hd:=hT
      simp only [Xp] at hT
      cases hu:P.underlying T with
      | none=>simp [hu] at hT
      | some dd =>
        cases dd with
        | struct l =>
          simp only [hu] at hT
          simp only [] at hg
          cases hj:Nat.blt i fs.length with
          | false=>rw [hj] at hg; simp at hg
          | true =>
            rw [hj] at hg
            simp only [cond_true] at hg
            obtain ⟨f,t,m1,m2,m3,m4,m5,m6,m7⟩:=Pq fs l.toList 0 i hT (by simpa [Nat.blt_eq] using hj)
            have m1':l[i]?=some f:=by rw [← Array.getElem?_toList]; exact m1
            have hoff:f.offset=Q6 (.st fs) [i]:=by rw [m3,Nat.zero_add]; rfl
            have hok:okP (.st fs) [i]:=by simpa only [okP] using m7
            have box:∀ (g:Nat) (p:Z3) (τ:Ty) (z:den τ) (ov:Ov) (M:Kx→List Value→Prop),evO s x=.ptr g p→Ww A ρ w g τ z ov M →
                X9.fld τ z p (.st fs) (K (.ptr g (p ++ [i])))=some r→∃ v,K v=some r∧Zr P o a w B w0 A ρ v h:=fun g p τ z ov M hx hb hf=>by
              obtain ⟨sp,cs,n1,n2,n3,n4,_,_⟩:=hb
              rw [hx] at k1
              obtain ⟨q1,q2⟩:=Hc k1 n1 n2
              rw [n4] at q1
              unfold X9.fld at hf
              split at hf
              · rename_i d hd'
                split at hf
                · rename_i pl _
                  obtain ⟨dτ,dx⟩:=d
                  have hdt:dτ=.st fs:=pl.down
                  subst hdt
                  have:=Tj τ p [i] z ⟨.st fs,dx⟩ q1 hd' hok
                  refine ⟨_,hf,fin l f _ _ _ _ hu m1' m4 m5 q2 ?_⟩
                  have e:sp.off p+f.offset=sp.off (p ++ [i]):=by rw [n3,this.2,hoff]
                  rw [e]
                  exact AF2 n1 n2 (by rw [n4]; exact this.1)
                · cases hf
              · cases hf
            have arr:∀ (g k:Nat) (p:Z3) (e:Ty) (z:List (den e)) (M:Kx→List Value→Prop),evO s x=.elp g k p→Vy A ρ w g e z M →
                X9.fld e (dft e) p (.st fs) (K (.elp g k (p ++ [i])))=some r→∃ v,K v=some r∧Zr P o a w B w0 A ρ v h:=fun g k p e z M hx hb hf=>by
              obtain ⟨sp,n1,n2,n3,n4,n5,n6,_⟩:=hb
              rw [hx] at k1
              obtain ⟨q0,q1,q2⟩:=Bm k1 n1
              rw [n6] at q1
              unfold X9.fld at hf
              split at hf
              · rename_i d hd'
                split at hf
                · rename_i pl _
                  obtain ⟨dτ,dx⟩:=d
                  have hdt:dτ=.st fs:=pl.down
                  subst hdt
                  have:=Tj e p [i] (dft e) ⟨.st fs,dx⟩ q1 hd' hok
                  refine ⟨_,hf,fin l f _ _ _ _ hu m1' m4 m5 q2 ?_⟩
                  have e':k * sp.es+sp.off p+f.offset=k * sp.es+sp.off (p ++ [i]):=by rw [n5,this.2,hoff]; exact Nat.add_assoc _ _ _
                  rw [e']
                  simp only [Zi]
                  exact ⟨sp,n1,n2,q0,by rw [n6]; exact this.1,rfl⟩
                · cases hf
              · cases hf
            split at hg
            · rename_i g p hx
              have ob:=st.objs g
              split at hg
              · rename_i τ z ov hh; rw [hh] at ob; exact box g p τ z ov _ hx ob hg
              · rename_i τ z ov hh; rw [hh] at ob; exact box g p τ z ov _ hx ob hg
              · cases hg
            · rename_i g k p hx
              have ob:=st.objs g
              split at hg
              · rename_i e z hh; rw [hh] at ob; exact arr g k p e z _ hx ob hg
              · rename_i e z hh; rw [hh] at ob; exact arr g k p e z _ hx ob hg
              · cases hg
            · rename_i τ z hx
              split at hg
              · rename_i pl d _ hd'
                have hτ:τ=.st fs:=pl.down
                subst hτ
                rw [hx] at k1
                simp only [Zi] at k1
                obtain ⟨b,k,cs,q1,q2,q3,q4⟩:=k1
                have hp:=Zj.getP (.st fs) [i] q4 hok hd'
                refine ⟨_,hg,fin l f _ _ _ _ hu m1' m4 m5 q1 ?_⟩
                simp only [Zi]
                refine ⟨b,k+f.offset,_,rfl,q2,?_,Zj.ov d.τ (fun e => ?_) hp⟩
                · rw [hoff]; exact Kv q3 _ _
                · obtain ⟨q,oo⟩:=e
                  rw [Y8]; simp
              · cases hg
            · cases hg
        | _=>simp [hu] at hT
    | _=>simp [APz] at hT
  | v sizes =>
    simp only [APz] at hT
    simp only [] at hg
    cases hu:P.underlying T with
    | none=>simp [hu] at hT
    | some dd =>
      cases dd with
      | struct l =>
        simp only [hu] at hT
        have boxv:∀ (g:Nat) (p:Z3) (u:SV) (M:Kx→List Value→Prop),evO s x=.ptr g p→Ul A ρ w g u M →
            X9.fldV u p sizes i (K (.ptr g (p ++ [i])))=some r→∃ v,K v=some r∧Zr P o a w B w0 A ρ v h:=fun g p u M hx hb hf=>by
          obtain ⟨sp,v,n1,n2,n3,n4,_⟩:=hb
          rw [hx] at k1
          obtain ⟨q1,q2⟩:=Hc k1 n1 n2
          unfold X9.fldV at hf
          split at hf
          · rename_i us hus
            cases hcc:X9.natsEq (X9.sizesV us) sizes && Nat.blt i sizes.length with
            | false=>rw [hcc] at hf; simp at hf
            | true =>
              rw [hcc] at hf
              simp only [cond_true] at hf
              simp only [Bool.and_eq_true] at hcc
              have he:=Ft hcc.1
              subst he
              obtain ⟨f,n,m1,m2,m3,m4⟩:=P4 _ l.toList 0 i hT (by simpa [Nat.blt_eq] using hcc.2)
              have m1':l[i]?=some f:=by rw [← Array.getElem?_toList]; exact m1
              have happ:=El u p [i] (.agv us) hus
              refine ⟨_,hf,fin l f n _ _ _ hu m1' m3 m4 q2 ?_⟩
              have e':sp.off p+f.offset=sp.off (p ++ [i]):=by
                rw [n3,happ.2,m2,Nat.zero_add]; simp only [Wa,N8]
              rw [e']
              refine AF2 n1 n2 ?_
              rw [n4]
              unfold okV
              rw [happ.1]
              simp only [getV,N1]
              have hlt:i<us.length:=by
                have:=hcc.2
                rw [Nat.blt_eq,Rj] at this
                exact this
              exact ⟨us[i],List.getElem?_eq_getElem hlt⟩
          · cases hf
        split at hg
        · rename_i us hx
          split at hg
          · rename_i u hcc hu'
            have he:=Ft hcc
            subst he
            have hlt:i<us.length:=(List.getElem?_eq_some_iff.1 hu').1
            obtain ⟨f,n,m1,m2,m3,m4⟩:=P4 _ l.toList 0 i hT (by rw [Rj]; exact hlt)
            have m1':l[i]?=some f:=by rw [← Array.getElem?_toList]; exact m1
            rw [hx] at k1
            simp only [Zi] at k1
            obtain ⟨b,k,v,q1,q2,q3,vs,rfl,q4,q5⟩:=k1
            obtain ⟨v',w1,w2⟩:=Zm.getV us q4 q5 (i:=i) (p:=[]) (x:=u) (by rw [N1]; exact hu')
            refine ⟨_,hg,fin l f n _ _ _ hu m1' m3 m4 q1 ?_⟩
            simp only [Zi]
            refine ⟨b,k+f.offset,v',rfl,q2,?_,w1⟩
            rw [w2,m2,Nat.zero_add,← N8]
            exact Kv q3 _ _
          · cases hg
        · rename_i g p hx
          have ob:=st.objs g
          split at hg
          · rename_i u hh; rw [hh] at ob; exact boxv g p u _ hx ob hg
          · rename_i u hh; rw [hh] at ob; exact boxv g p u _ hx ob hg
          · cases hg
        · cases hg
      | _=>simp [hu] at hT
end
end Go.Proofs.YtpemapoblhleoaaGreatDoor.Ghost
namespace Go.Proofs.YtpemapoblhleoaaGreatDoor.Ghost
open Go
section
variable {P:Program} {o:Oper} {a:Act} {w:World} {B:Nat} {w0:Y6} {A:Nat→Prop} {ρ:Xc} {own:Nat→Option Nat} {h:Nat→Obj} {s:Nat→SV}
theorem L6 {R:Type} {n:Int} {m:Nat} {K:Nat→Option R} {r:R} (hg:inB n m K=some r):0≤n∧n<(m:Int)∧K n.toNat=some r:=by
  unfold inB at hg
  split at hg
  · rename_i hn; exact ⟨hn.1,hn.2,hg⟩
  · cases hg
def AP8 (P:Program):IT→TypeId→Bool
  | .sl e,t=>Xp P (.sl e) t
  | .arr n e,t=>Xp P (.arr n e) t
  | .slv n,t=>(match P.underlying t with | some (.slice e)=>Jj P e n | _=>false)
def D5 (P:Program) (o:Oper) (t:IT) (x i:Opd):Bool:=match o.op with
  | .indexAddr T y z=>AP8 P t T && Xh x y && Xh i z
  | _=>false
theorem Tm {T e:TypeId} {sz b k len cap:Nat} {kd:IntKind} {n:Int} (hu:P.underlying T=some (.slice e)) (hz:Jj P e sz=true) (h0:0≤n) (h1:n<(len:Int)) :
    (Instr.indexAt T (.slice (some ⟨b,k,none⟩) len cap) (.int kd n)).run P w=.ok (.pointer (some ⟨b,k+n.toNat * sz,none⟩)) w:=by
  simp only [Instr.indexAt,asIntOf,Sem.run_bind,Sem.run_pure,Result.andThen_ok,run_underlying hu w,h0,h1,and_self,if_true,J0 hz,Addr.add_mid]
theorem Oe {T e:TypeId} {sz b k len:Nat} {kd:IntKind} {n:Int} (hu:P.underlying T=some (.array len e)) (hz:Jj P e sz=true) (h0:0≤n) (h1:n<(len:Int)) :
    (Instr.indexAt T (.pointer (some ⟨b,k,none⟩)) (.int kd n)).run P w=.ok (.pointer (some ⟨b,k+n.toNat * sz,none⟩)) w:=by
  simp only [Instr.indexAt,asIntOf,Instr.sureAddr,Sem.run_bind,Sem.run_pure,Result.andThen_ok,run_underlying hu w,h0,h1,and_self,if_true,J0 hz,Addr.add_mid]
theorem Fe {e:Ty} {t:TypeId} (hd:Xp P (.sl e) t=true):∃ e',P.underlying t=some (.slice e')∧Xp P e e'=true∧Jj P e' (Zg e)=true∧0<Zg e:=by
  simp only [Xp] at hd
  split at hd
  · rename_i e' he
    simp only [Bool.and_eq_true] at hd
    exact ⟨e',he,hd.1.1,hd.1.2,by simpa [Nat.blt_eq] using hd.2⟩
  · cases hd
theorem Tb {n:Nat} {e:Ty} {t:TypeId} (hd:Xp P (.arr n e) t=true):∃ e',P.underlying t=some (.array n e')∧Xp P e e'=true∧Jj P e' (Zg e)=true∧0<Zg e:=by
  simp only [Xp] at hd
  split at hd
  · rename_i n' e' he
    simp only [Bool.and_eq_true] at hd
    have:=Nat.eq_of_beq_eq_true hd.1.1.1
    subst this
    exact ⟨e',he,hd.1.1.2,hd.1.2,by simpa [Nat.blt_eq] using hd.2⟩
  · cases hd
theorem Bz {z:Nat}:(us:List SV)→(j:Nat)→(∀ u,u∈us→Q8 u=z)→j≤us.length→U3 (X9.sizesV us) j=j * z
  | [],j,_,hj=>by simp at hj; subst hj; simp [X9.sizesV,U3]
  | u :: r,0,_,_=>by simp [X9.sizesV,U3]
  | u :: r,j+1,h,hj=>by
    simp only [X9.sizesV,U3,Bz r j (fun u hu=>h u (by simp [hu])) (by simpa using hj),h u (by simp),Nat.add_mul,Nat.one_mul]
    omega
variable (st:St B w0 A ρ own w h) (hs:Xe A ρ w s a)
include st hs
theorem AFo {t:IT} {x i:Opd} (hc:D5 P o t x i=true) {R:Type} {K:SV→Option R} {r:R} (hg:G6 t h (evO s x) (evO s i) K=some r) :
    ∃ v,K v=some r∧Zr P o a w B w0 A ρ v h:=by
  unfold D5 at hc
  split at hc
  case h_2=>cases hc
  rename_i T y z ho
  simp only [Bool.and_eq_true] at hc
  obtain ⟨⟨hT,hx⟩,hi⟩:=hc
  have k1:=X3 hs hx
  have k2:=X3 hs hi
  have fin:∀ (v':Value) (v:SV),(Instr.indexAt T (a.eval y) (a.eval z)).run P w=.ok v' w→Zi A ρ w v v'→Zr P o a w B w0 A ρ v h:=fun v' v h1 h2 =>
    Zr.pure st (by simp only [execOp,ho,Sem.run_bind,h1,Result.andThen_ok,Sem.run_pure]) h2
  unfold G6 at hg
  split at hg
  case h_2=>cases hg
  rename_i kd n ovi hin
  rw [hin] at k2
  have k2:=Hq k2
  rw [k2] at fin
  cases t with
  | sl σ =>
    simp only [AP8] at hT
    obtain ⟨e',u1,u2,u3,u4⟩:=Fe hT
    simp only [] at hg
    have own:∀ (e:Ty) (l0:List (den e)) (g:Nat) (e1:Ty) (l:List (den e1)) (M:Kx→List Value→Prop),evO s x=.dat (.sl e) l0 [([],some g)]→Vy A ρ w g e1 l M →
        (match Kj e1 σ with | some _=>inB n l.length fun j=>K (.elp g j []) | none=>none)=some r→∃ v,K v=some r∧Zr P o a w B w0 A ρ v h:=fun e l0 g e1 l M hx' hb hf=>by
      obtain ⟨sp,n1,n2,n3,n4,n5,n6,n7,n8,n9⟩:=hb
      rw [hx'] at k1
      simp only [Zi,Zj] at k1
      obtain ⟨cs,⟨ad,len,cap,rfl,q2,_⟩,hv⟩:=k1
      obtain ⟨sp',ad',w1,_,w2,w3⟩:=q2 g (by simp)
      rw [n1] at w1
      cases w1
      cases w2
      split at hf
      · rename_i pl _
        have:=pl.down
        subst this
        obtain ⟨i0,i1,i2⟩:=L6 hf
        rw [n7] at i1
        have hcap:0<sp.cap:=by omega
        have:=w3 hcap
        subst this
        refine ⟨_,i2,fin _ _ (by rw [hv]; exact Tm u1 u3 i0 i1) ?_⟩
        simp only [Zi]
        refine ⟨sp,n1,n2,by omega,by rw [n6]; cases e1 <;> trivial,?_⟩
        have h0:Q6 e1 []=0:=by cases e1 <;> rfl
        rw [n5,h0,n3,Nat.zero_add,Nat.add_zero]
      · cases hf
    split at hg
    · rename_i e l hx'
      rw [hx'] at k1
      simp only [Zi,Zj] at k1
      obtain ⟨cs,⟨ad,len,cap,rfl,_,q3⟩,hv⟩:=k1
      split at hg
      · rename_i pl _
        have:=pl.down
        subst this
        obtain ⟨i0,i1,i2⟩:=L6 hg
        obtain ⟨q4,q5⟩:=q3 (by simp)
        subst q4
        obtain ⟨b,k,ds,rfl,w1,w2,w3,w4⟩:=q5 (by omega)
        refine ⟨_,i2,fin _ _ (by rw [hv]; exact Tm u1 u3 i0 i1) ?_⟩
        simp only [Zi]
        exact ⟨b,_,_,rfl,w1,Kv w2 _ _,w4 n.toNat (by omega)⟩
      · cases hg
    · rename_i e l0 g hx'
      have ob:=st.objs g
      split at hg
      · rename_i e1 l hh; rw [hh] at ob; exact own e l0 g e1 l _ hx' ob hg
      · rename_i e1 l hh; rw [hh] at ob; exact own e l0 g e1 l _ hx' ob hg
      · cases hg
    · cases hg
  | arr M σ =>
    simp only [AP8] at hT
    obtain ⟨e',u1,u2,u3,u4⟩:=Tb hT
    simp only [] at hg
    have box:∀ (g:Nat) (p:Z3) (τ:Ty) (q:den τ) (ov:Ov) (M':Kx→List Value→Prop),evO s x=.ptr g p→Ww A ρ w g τ q ov M' →
        G6.arrAt τ q p M σ n (fun j=>K (.ptr g (p ++ [j])))=some r→∃ v,K v=some r∧Zr P o a w B w0 A ρ v h:=fun g p τ q ov M' hx' hb hf=>by
      obtain ⟨sp,cs,n1,n2,n3,n4,_,_⟩:=hb
      rw [hx'] at k1
      obtain ⟨q1,q2⟩:=Hc k1 n1 n2
      rw [n4] at q1
      unfold G6.arrAt at hf
      split at hf
      · rename_i N e dx hd'
        split at hf
        · rename_i pl _ hN
          have:=pl.down
          subst this
          have hN:=Nat.eq_of_beq_eq_true hN
          subst hN
          obtain ⟨i0,i1,i2⟩:=L6 hf
          have hlt:n.toNat<N:=by omega
          have h0:Q6 e []=0:=by cases e <;> rfl
          have:=Tj τ p [n.toNat] q ⟨.arr N e,dx⟩ q1 hd' ⟨hlt,by cases e <;> trivial⟩
          refine ⟨_,i2,fin _ _ (by rw [q2]; exact Oe u1 u3 i0 i1) ?_⟩
          have e':sp.off p+n.toNat * Zg e=sp.off (p ++ [n.toNat]):=by
            rw [n3,this.2]; simp only [Q6,h0,Nat.add_zero]
          rw [e']
          exact AF2 n1 n2 (by rw [n4]; exact this.1)
        · cases hf
      · cases hf
    split at hg
    · rename_i N e l hx'
      split at hg
      · rename_i pl _ hN
        have:=pl.down
        subst this
        have hN:=Nat.eq_of_beq_eq_true hN
        subst hN
        obtain ⟨i0,i1,i2⟩:=L6 hg
        rw [hx'] at k1
        simp only [Zi,Zj] at k1
        obtain ⟨b,k,cs,q1,q2,q3,q4,q5,q6⟩:=k1
        have hlt:n.toNat<N:=by omega
        refine ⟨_,i2,fin _ _ (by rw [q1]; exact Oe u1 u3 i0 i1) ?_⟩
        simp only [Zi]
        exact ⟨b,_,_,rfl,q2,Kv q3 _ _,q6 n.toNat hlt⟩
      · cases hg
    · rename_i g p hx'
      have ob:=st.objs g
      split at hg
      · rename_i τ q ov hh; rw [hh] at ob; exact box g p τ q ov _ hx' ob hg
      · rename_i τ q ov hh; rw [hh] at ob; exact box g p τ q ov _ hx' ob hg
      · cases hg
    · cases hg
  | slv sz =>
    simp only [AP8] at hT
    simp only [] at hg
    cases hu:P.underlying T with
    | none=>simp [hu] at hT
    | some dd =>
      cases dd with
      | slice e' =>
        simp only [hu] at hT
        split at hg
        · rename_i us hx'
          split at hg
          · rename_i j _
            split at hg
            · rename_i u hu'
              split at hg
              · rename_i hsz
                have hsz:=Nat.eq_of_beq_eq_true hsz
                rw [hx'] at k1
                simp only [Zi] at k1
                obtain ⟨ad,len,cap,q1,q2,vs,q3,q4,⟨zz,q5⟩,q6⟩:=k1
                have hlt:j<us.length:=(List.getElem?_eq_some_iff.1 hu').1
                obtain ⟨b,k,rfl,w1,w2⟩:=q6 (by omega)
                have hzz:zz=sz:=by rw [← q5 u (List.mem_of_getElem? hu')]; exact hsz
                subst hzz
                obtain ⟨v',v1,v2⟩:=Zm.getV us q3 q4 (i:=j) (p:=[]) (x:=u) (by rw [N1]; exact hu')
                refine ⟨_,hg,fin _ _ (by rw [q1]; exact Tm (n:=(j:Int)) hu hT (by omega) (by omega)) ?_⟩
                simp only [Zi]
                refine ⟨b,_,v',rfl,w1,?_,v1⟩
                rw [v2,N8,Bz us j q5 (by omega)]
                exact Kv w2 _ _
              · cases hg
            · cases hg
          · cases hg
        · cases hg
      | _=>simp [hu] at hT
end
end Go.Proofs.YtpemapoblhleoaaGreatDoor.Ghost
