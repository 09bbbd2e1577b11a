/- The ghost semantics, and memory as it has it. Conditions: none. -/
import GoSem.Dispatch
import Derived.Deep.MidRow
import Derived.Below
import Derived.Orders
set_option linter.unusedVariables false
set_option linter.unusedSimpArgs false
set_option linter.unusedSectionVars false
set_option linter.unnecessarySimpa false
namespace Go.Proofs.YtmemggdjnfccfaaGreatDoor.Ghost
open Go
inductive Ty where
  | bool | int (k:IntKind) | str
  | sl (e:Ty) | arr (n:Nat) (e:Ty) | st (fs:List Ty)
mutual
@[reducible] def den:Ty→Type
  | .bool=>Bool
  | .int _=>Int
  | .str=>ByteArray
  | .sl e=>List (den e)
  | .arr _ e=>List (den e)
  | .st fs=>Ho fs
@[reducible] def Ho:List Ty→Type
  | []=>Unit
  | t :: r=>den t×Ho r
end
mutual
def dft:(t:Ty)→den t
  | .bool=>false
  | .int _=>(0:Int)
  | .str=>(⟨#[]⟩:ByteArray)
  | .sl _=>[]
  | .arr n e=>List.replicate n (dft e)
  | .st fs=>BLt fs
def BLt:(l:List Ty)→Ho l
  | []=>()
  | t :: r=>(dft t,BLt r)
end
mutual
def Zi:Ty→Nat
  | .st fs=>Ui fs
  | .arr n e=>n * Zi e
  | _=>1
def Ui:List Ty→Nat
  | []=>0
  | t :: r=>Zi t+Ui r
end
structure Dyn where
  τ:Ty
  x:den τ
abbrev Xc:=List Nat
def Uf:(l:List Ty)→Nat→Ho l→Option Dyn
  | [],_,_=>none
  | t :: _,0,x=>some ⟨t,x.1⟩
  | _ :: r,n+1,x=>Uf r n x.2
def getP:Xc→(τ:Ty)→den τ→Option Dyn
  | [],τ,x=>some ⟨τ,x⟩
  | i :: p,.st fs,x=>match Uf fs i x with
    | some d=>getP p d.τ d.x
    | none=>none
  | i :: p,.arr _ e,x=>getP p e (List.getD x i (dft e))
  | _ :: _,_,_=>none
mutual
def Ha:(a b:Ty)→Option (PLift (a=b))
  | .bool,.bool=>some ⟨rfl⟩
  | .int k,.int k'=>if h:k=k' then some ⟨by rw [h]⟩ else none
  | .str,.str=>some ⟨rfl⟩
  | .sl a,.sl b=>match Ha a b with | some ⟨h⟩=>some ⟨by rw [h]⟩ | none=>none
  | .arr n a,.arr m b=>if hn:n=m then match Ha a b with | some ⟨h⟩=>some ⟨by rw [h,hn]⟩ | none=>none else none
  | .st a,.st b=>match AA2 a b with | some ⟨h⟩=>some ⟨by rw [h]⟩ | none=>none
  | _,_=>none
def AA2:(a b:List Ty)→Option (PLift (a=b))
  | [],[]=>some ⟨rfl⟩
  | a :: r,b :: s=>match Ha a b with
    | some ⟨h⟩=>match AA2 r s with
      | some ⟨h'⟩=>some ⟨by rw [h,h']⟩
      | none=>none
    | none=>none
  | _,_=>none
end
def Jt (a b:Ty) (x:den a):Option (den b):=match Ha a b with
  | some ⟨h⟩=>some (h ▸ x)
  | none=>none
mutual
def K7:(l:List Ty)→Nat→Xc→Ho l→Dyn→Option (Ho l)
  | [],_,_,_,_=>none
  | t :: _,0,p,x,d=>match setP t p x.1 d with
    | some y=>some (y,x.2)
    | none=>none
  | _ :: r,n+1,p,x,d=>match K7 r n p x.2 d with
    | some y=>some (x.1,y)
    | none=>none
def setP:(t:Ty)→Xc→den t→Dyn→Option (den t)
  | t,[],_,d=>Jt d.τ t d.x
  | .st fs,i :: p,x,d=>K7 fs i p x d
  | .arr _ e,i :: p,x,d=>match setP e p (List.getD x i (dft e)) d with
    | some y=>some (List.set x i y)
    | none=>none
  | _,_ :: _,_,_=>none
end
def Zy:Xc→Xc→Bool
  | [],[]=>true
  | i :: p,j :: q=>Nat.beq i j && Zy p q
  | _,_=>false
inductive SV where
  | dat (τ:Ty) (x:den τ) (ov:List (Xc×Option Nat))
  | ptr (g:Nat) (p:Xc)
  | ref (τ:Ty) (x:den τ)
  | refv (v:SV)
  | selfc (f:FuncId) (caps:List SV)
  | glo (k:Nat)
  | elp (g i:Nat) (p:Xc)
  | clo (f:FuncId) (caps:List SV)
  | tup (vs:List SV)
  | slv (vs:List SV)
  | fmap (ks:List Int) (vs:List SV)
  | agv (vs:List SV)
  | nilfn
  | und
  | junk
inductive Obj where
  | box (τ:Ty) (x:den τ) (ov:List (Xc×Option Nat))
  | boxv (v:SV)
  | fbox (τ:Ty) (x:den τ) (ov:List (Xc×Option Nat))
  | fboxv (v:SV)
  | arr (e:Ty) (l:List (den e))
  | frz (e:Ty) (l:List (den e))
  | map (k v:Ty) (l:List (den k×den v))
  | hid
  | dead
  | none
abbrev Qa:=List Obj
abbrev Xp:=List (Nat×SV)
def Xu:Qa→Nat→Obj
  | [],_=>.none
  | o :: _,0=>o
  | _ :: r,n+1=>Xu r n
def Px:Qa→Nat→Obj→Qa
  | [],0,o=>[o]
  | [],n+1,o=>.none :: Px [] n o
  | _ :: r,0,o=>o :: r
  | x :: r,n+1,o=>x :: Px r n o
def Xz:Xp→Nat→SV
  | [],_=>.junk
  | (i,v) :: r,j=>match Nat.beq i j with | true=>v | false=>Xz r j
def Nv:Xp→Nat→SV→Xp
  | [],j,x=>[(j,x)]
  | (i,v) :: r,j,x=>match Nat.beq i j with | true=>(i,x) :: r | false=>(i,v) :: Nv r j x
def Mt (s:Xp):Option Nat→SV→Xp
  | none,_=>s
  | some d,v=>Nv s d v
def Ft (k:List Nat):Xp→Xp
  | []=>[]
  | (i,v) :: r=>match k.any (Nat.beq i) with | true=>Ft k r | false=>(i,v) :: Ft k r
def Gm:Xc→Xc→Option Xc
  | [],q=>some q
  | i :: p,j :: q=>match Nat.beq i j with | true=>Gm p q | false=>none
  | _ :: _,[]=>none
def Vb (p:Xc):List (Xc×Option Nat)→List (Xc×Option Nat)
  | []=>[]
  | (q,g) :: r=>match Gm p q with | some q'=>(q',g) :: Vb p r | none=>Vb p r
def O9 (p:Xc):List (Xc×Option Nat)→List (Xc×Option Nat)
  | []=>[]
  | (q,g) :: r=>match Gm p q with | some _=>O9 p r | none=>(q,g) :: O9 p r
def Ce (p:Xc):List (Xc×Option Nat)→List (Xc×Option Nat)
  | []=>[]
  | (q,g) :: r=>(p ++ q,g) :: Ce p r
def AOv:Xc→Xc→Bool
  | [],[]=>false
  | [],_ :: _=>true
  | _ :: _,[]=>false
  | i :: p,j :: q=>Nat.blt i j || Nat.beq i j && AOv p q
def AGo (e:Xc×Option Nat):List (Xc×Option Nat)→List (Xc×Option Nat)
  | []=>[e]
  | x :: r=>match AOv e.1 x.1 with | true=>e :: x :: r | false=>x :: AGo e r
def Lp:List (Xc×Option Nat)→List (Xc×Option Nat)→List (Xc×Option Nat)
  | [],ov=>ov
  | e :: r,ov=>Lp r (AGo e ov)
def getV:SV→Xc→Option SV
  | v,[]=>some v
  | .agv vs,i :: p=>getVL vs i p
  | _,_ :: _=>none
where getVL:List SV→Nat→Xc→Option SV
  | [],_,_=>none
  | v :: _,0,p=>getV v p
  | _ :: r,n+1,p=>getVL r n p
def resolve (h:Nat→Obj) (τ:Ty) (x:den τ):List (Xc×Option Nat)→Option (den τ)
  | []=>some x
  | (q,some g) :: r=>match h g with
    | .arr e l=>match setP τ q x ⟨.sl e,l⟩ with
      | some y=>resolve h τ y r
      | none=>none
    | .frz e l=>match setP τ q x ⟨.sl e,l⟩ with
      | some y=>resolve h τ y r
      | none=>none
    | _=>none
  | (_,none) :: _=>none
def Fh:den (.arr 11 .str):=[(⟨#[]⟩:ByteArray),(⟨#[109,111,118,101]⟩:ByteArray),(⟨#[112,117,115,104]⟩:ByteArray),(⟨#[103,101,116]⟩:ByteArray),(⟨#[100,114,111,112]⟩:ByteArray),(⟨#[112,117,116]⟩:ByteArray),(⟨#[116,97,107,101]⟩:ByteArray),(⟨#[103,105,118,101]⟩:ByteArray),(⟨#[116,114,97,100,101]⟩:ByteArray),(⟨#[108,111,111,107]⟩:ByteArray),(⟨#[111,119,110]⟩:ByteArray)]
def Fi:den (.arr 4 .str):=[(⟨#[110,111,114,116,104]⟩:ByteArray),(⟨#[101,97,115,116]⟩:ByteArray),(⟨#[115,111,117,116,104]⟩:ByteArray),(⟨#[119,101,115,116]⟩:ByteArray)]
def P8:Nat→Option Dyn:=fun k=>match k with
  | 0=>some ⟨(.arr 11 .str),Fh⟩
  | 1=>some ⟨(.arr 4 .str),Fi⟩
  | _=>none
def AHu {R:Type} (o:Option Dyn) (M:Nat) (σ:Ty) (K:(l:List (den σ))→Option R):Option R:=match o with
  | some ⟨.arr N e,l⟩=>(match Ha e σ,Nat.beq N M with | some ⟨h⟩,true=>K (h ▸ l) | _,_=>none)
  | _=>none
inductive Opd where
  | t (i:Nat)
  | g (k:Nat)
  | c (τ:Ty) (x:den τ)
  | f (f:FuncId)
  | nf
def evO (s:Nat→SV):Opd→SV
  | .t i=>s i
  | .g k=>.glo k
  | .c τ x=>.dat τ x []
  | .f f=>.clo f []
  | .nf=>.nilfn
inductive Sh where
  | d (τ:Ty)
  | ref (τ:Ty)
  | refv (s:Sh)
  | selfc (f:FuncId) (l:List Sh)
  | clo (f:FuncId) (l:List Sh)
  | nilfn
  | agv (l:List Sh)
  | slv (l:List Sh)
  | fmap (ks:List Int) (l:List Sh)
mutual
@[reducible] def dSh:Sh→Type
  | .d τ=>den τ
  | .ref τ=>den τ
  | .refv s=>dSh s
  | .selfc _ l=>Xf l
  | .clo _ l=>Xf l
  | .nilfn=>Unit
  | .agv l=>Xf l
  | .slv l=>Xf l
  | .fmap _ l=>Xf l
@[reducible] def Xf:List Sh→Type
  | []=>Unit
  | s :: r=>dSh s×Xf r
end
mutual
def inj:(s:Sh)→dSh s→SV
  | .d τ,x=>.dat τ x []
  | .ref τ,x=>.ref τ x
  | .refv s,x=>.refv (inj s x)
  | .selfc f l,x=>.selfc f (Kl l x)
  | .clo f l,x=>.clo f (Kl l x)
  | .nilfn,_=>.nilfn
  | .agv l,x=>.agv (Kl l x)
  | .slv l,x=>.slv (Kl l x)
  | .fmap ks l,x=>.fmap ks (Kl l x)
def Kl:(l:List Sh)→Xf l→List SV
  | [],_=>[]
  | s :: r,x=>inj s x.1 :: Kl r x.2
end
def AB6:List Int→List Int→Bool
  | [],[]=>true
  | a :: r,b :: s=>(a == b) && AB6 r s
  | _,_=>false
mutual
def prj:(s:Sh)→SV→Option (dSh s)
  | .d τ,.dat σ x []=>Jt σ τ x
  | .ref τ,.ref σ x=>Jt σ τ x
  | .refv s,.refv v=>prj s v
  | .selfc f l,.selfc g vs=>match Nat.beq f g with | true=>Pv l vs | false=>none
  | .clo f l,.clo g vs=>match Nat.beq f g with | true=>Pv l vs | false=>none
  | .nilfn,.nilfn=>some ()
  | .agv l,.agv vs=>Pv l vs
  | .slv l,.slv vs=>Pv l vs
  | .fmap ks l,.fmap ks' vs=>match AB6 ks ks' with | true=>Pv l vs | false=>none
  | _,_=>none
def Pv:(l:List Sh)→List SV→Option (Xf l)
  | [],[]=>some ()
  | s :: r,v :: vs=>match prj s v with
    | some x=>match Pv r vs with
      | some y=>some (x,y)
      | none=>none
    | none=>none
  | _,_=>none
end
inductive LT where
  | d (τ:Ty)
  | v (agg:Bool) (n:Nat)
inductive FT where
  | d (τ:Ty)
  | v (sizes:List Nat)
inductive IT where
  | sl (e:Ty)
  | arr (n:Nat) (e:Ty)
  | slv (n:Nat)
inductive GOp where
  | move (x:Opd)
  | mknil (k:Nat) (e:Ty)
  | pick (c a b:Opd)
  | newbox (k:Nat) (τ:Ty) (nils:List (Xc×Nat))
  | newboxv (k:Nat) (z:SV)
  | box (k:Nat) (x:Opd)
  | load (t:LT) (a:Opd)
  | store (t:LT) (a v:Opd)
  | bin (op:BinOp) (x y:Opd)
  | eqs (τ:Ty) (neg:Bool) (x y:Opd)
  | not (x:Opd)
  | neg (x:Opd)
  | conv (k:IntKind) (x:Opd)
  | fieldAddr (t:FT) (j:Nat) (a:Opd)
  | field (τ:Ty) (j:Nat) (a:Opd)
  | index (t:IT) (x i:Opd)
  | len (x:Opd)
  | lens (x:Opd)
  | slicearr (n:Nat) (e:Ty) (x:Opd)
  | max (xs:List Opd)
  | min (xs:List Opd)
  | build (τ:Ty) (parts:List (Nat×Opd)) (nils:List (Xc×Nat))
  | buildv (sizes:List Nat) (parts:List Opd)
  | slice (k:Nat) (e:Ty) (parts:List Opd)
  | slicev (size:Nat) (parts:List Opd)
  | make (k:Nat) (e:Ty) (n:Opd)
  | append (k:Nat) (e:Ty) (x y:Opd)
  | extract (x:Opd) (i:Nat)
  | func (f:FuncId) (caps:List Opd)
  | mkmap (k:Nat) (κ ν:Ty)
  | lookup (κ ν:Ty) (m i:Opd)
  | lookv (m i:Opd) (ok:Bool)
  | slx (e:Ty) (x:Opd) (lo hi:Option Opd)
  | mapset (κ ν:Ty) (m i v:Opd)
  | mapent (κ ν:Ty) (m i:Opd)
  | mapst (κ ν:Ty) (m e v:Opd)
  | call (f:Opd) (args:List Opd) (res:List Sh) (keep:List ((Nat×Xc)×Nat)) (opt:Bool)
  | fail
abbrev Eff:=List (Nat×Obj)
def Pm (h:Qa):Eff→Qa
  | []=>h
  | (g,o) :: r=>Pm (Px h g o) r
def AEq {α:Type} (f:α→α→Bool):List α→List α→Bool
  | x :: r,y :: r'=>f x y && AEq f r r'
  | _,_=>true
mutual
def eqT:(t:Ty)→den t→den t→Bool
  | .bool,x,y=>x == y
  | .int _,x,y=>x == y
  | .str,x,y=>x == y
  | .sl _,_,_=>false
  | .arr _ e,x,y=>AEq (eqT e) x y
  | .st fs,x,y=>Ad fs x y
def Ad:(l:List Ty)→Ho l→Ho l→Bool
  | [],_,_=>true
  | t :: r,x,y=>eqT t x.1 y.1 && Ad r x.2 y.2
end
mutual
def BLr:Ty→Bool
  | .sl _=>false
  | .arr _ e=>BLr e
  | .st fs=>AUe fs
  | _=>true
def AUe:List Ty→Bool
  | []=>true
  | t :: r=>BLr t && AUe r
end
section
variable {R:Type}
def Bi (op:BinOp) (k:IntKind) (x y:Int) (K:SV→Option R):Option R :=
  match op with
  | .add=>K (.dat (.int k) (k.wrap (x+y)) [])
  | .sub=>K (.dat (.int k) (k.wrap (x - y)) [])
  | .mul=>K (.dat (.int k) (k.wrap (x * y)) [])
  | .rem=>if y=0 then none else K (.dat (.int k) (Int.tmod x y) [])
  | .quo=>if y=0 then none else K (.dat (.int k) (k.wrap (Int.tdiv x y)) [])
  | .eql=>K (.dat .bool (decide (x=y)) [])
  | .neq=>K (.dat .bool (!decide (x=y)) [])
  | .lss=>K (.dat .bool (decide (x<y)) [])
  | .leq=>K (.dat .bool (decide (x≤y)) [])
  | .gtr=>K (.dat .bool (decide (y<x)) [])
  | .geq=>K (.dat .bool (decide (y≤x)) [])
  | _=>none
def AJ6 (op:BinOp) (a b:SV) (K:SV→Option R):Option R :=
  match a,b with
  | .dat (.int k) x _,.dat (.int k') y _=>if k=k' then Bi op k x y K else none
  | _,_=>none
def ANr (τ:Ty) (neg:Bool) (a b:SV) (K:SV→Option R):Option R :=
  match a,b with
  | .dat σ x [],.dat ρ y []=>match Jt σ τ x,Jt ρ τ y,BLr τ with
    | some x,some y,true=>K (.dat .bool (match neg with | true => !(eqT τ x y) | false=>eqT τ x y) [])
    | _,_,_=>none
  | _,_=>none
def Ds (τ:Ty) (x:den τ) (ov:List (Xc×Option Nat)) (p:Xc) (K:SV→Option R):Option R :=
  match getP p τ x with
  | some d=>K (.dat d.τ d.x (Vb p ov))
  | none=>none
mutual
def Jw:SV→Nat
  | .dat τ _ _=>Zi τ
  | .agv vs=>Hu vs
  | _=>1
def Hu:List SV→Nat
  | []=>0
  | v :: r=>Jw v+Hu r
end
def G4 (n:Nat):SV→Bool
  | .junk=>false
  | .und=>false
  | .tup _=>false
  | v=>Nat.beq (Jw v) n
def Rv:List Nat→List SV→Bool
  | [],[]=>true
  | n :: r,v :: s=>G4 n v && Rv r s
  | _,_=>false
def AAy (n:Nat):List SV→Bool
  | []=>true
  | v :: s=>G4 n v && AAy n s
def okL:LT→SV→Bool
  | .d τ,.dat σ _ _=>(match Ha σ τ with | some _=>true | none=>false)
  | .v true n,.agv vs=>Nat.beq (Hu vs) n
  | .v false n,.clo _ _=>Nat.beq n 1
  | .v false n,.nilfn=>Nat.beq n 1
  | _,_=>false
def ACc (ok:Bool) (v:SV) (b:Bool):SV:=match ok with | true=>.tup [v,.dat .bool b []] | false=>v
def Tn (n:Int):List Int→List SV→(SV→Bool→Option R)→Option R
  | k :: ks,v :: vs,K=>bif decide (n=k) then K v true else Tn n ks vs K
  | _,_,K=>K .nilfn false
def I2 (s:Nat→SV):Option Opd→Int→Option Int
  | none,d=>some d
  | some x,_=>match evO s x with | .dat (.int .i64) n _=>some n | _=>none
def Fx (h:Nat→Obj) (a:SV) (K:SV→Option R):Option R :=
  match a with
  | .ref τ x=>K (.dat τ x [])
  | .refv v=>K v
  | .selfc f vs=>K (.clo f (.selfc f vs :: vs))
  | .glo k=>match P8 k with | some d=>K (.dat d.τ d.x []) | none=>none
  | .ptr g p=>match h g with
    | .box τ x ov=>Ds τ x ov p K
    | .fbox τ x ov=>Ds τ x ov p K
    | .boxv v=>(match getV v p with | some u=>K u | none=>none)
    | .fboxv v=>(match getV v p with | some u=>K u | none=>none)
    | _=>none
  | .elp g i p=>match h g with
    | .arr e l=>Ds e (List.getD l i (dft e)) [] p K
    | .frz e l=>Ds e (List.getD l i (dft e)) [] p K
    | _=>none
  | _=>none
def Fy (t:LT) (h:Nat→Obj) (a:SV) (K:SV→Option R):Option R :=
  Fx h a fun v=>match okL t v with | true=>K v | false=>none
mutual
def F6:SV→SV→Bool
  | .agv vs,.agv us=>F7 vs us
  | .dat τ _ [],.dat σ _ []=>(match Ha τ σ with | some _=>true | none=>false)
  | .nilfn,.nilfn=>true
  | .nilfn,.clo _ _=>true
  | .clo _ _,.nilfn=>true
  | .clo _ _,.clo _ _=>true
  | _,_=>false
def F7:List SV→List SV→Bool
  | [],[]=>true
  | v :: r,u :: s=>F6 v u && F7 r s
  | _,_=>false
end
mutual
def AA5:SV→Bool
  | .nilfn=>true
  | .agv vs=>AEi vs
  | .dat (.int _) x []=>decide (x=(0:Int))
  | .dat .bool x [] => !x
  | _=>false
def AEi:List SV→Bool
  | []=>true
  | v :: r=>AA5 v && AEi r
end
def Ni (h:Nat→Obj) (a v:SV) (K:Eff→Option R):Option R :=
  match a with
  | .ptr g p=>match h g with
    | .box τ x ov=>(match v with
      | .dat σ y ov'=>match setP τ p x ⟨σ,y⟩ with
        | some x'=>K [(g,.box τ x' (Lp (Ce p ov') (O9 p ov)))]
        | none=>none
      | _=>none)
    | .boxv u=>(match p,F6 u v with | [],true=>K [(g,.boxv v)] | _,_=>none)
    | _=>none
  | .elp g i p=>match h g with
    | .arr e l=>(match v with
      | .dat σ y []=>match setP e p (List.getD l i (dft e)) ⟨σ,y⟩ with
        | some y'=>K [(g,.arr e (List.set l i y'))]
        | none=>none
      | _=>none)
    | _=>none
  | _=>none
def inB (n:Int) (m:Nat) (K:Nat→Option R):Option R:=if 0≤n∧n<(m:Int) then K n.toNat else none
def Yo (h:Nat→Obj) (t:FT) (j:Nat) (a:SV) (K:SV→Option R):Option R :=
  match t with
  | .d σ=>(match σ with
    | .st fs=>bif Nat.blt j fs.length then (match a with
      | .ptr g p=>(match h g with
        | .box τ x _=>fld τ x p σ (K (.ptr g (p ++ [j])))
        | .fbox τ x _=>fld τ x p σ (K (.ptr g (p ++ [j])))
        | _=>none)
      | .elp g i p=>(match h g with
        | .arr e _=>fld e (dft e) p σ (K (.elp g i (p ++ [j])))
        | .frz e _=>fld e (dft e) p σ (K (.elp g i (p ++ [j])))
        | _=>none)
      | .ref τ x=>(match Ha τ σ,getP [j] τ x with | some _,some d=>K (.ref d.τ d.x) | _,_=>none)
      | _=>none) else none
    | _=>none)
  | .v sizes=>(match a with
    | .refv (.agv vs)=>(match natsEq (sizesV vs) sizes,vs[j]? with | true,some v=>K (.refv v) | _,_=>none)
    | .ptr g p=>(match h g with
      | .boxv u=>fldV u p sizes j (K (.ptr g (p ++ [j])))
      | .fboxv u=>fldV u p sizes j (K (.ptr g (p ++ [j])))
      | _=>none)
    | _=>none)
where
  fld (τ:Ty) (x:den τ) (p:Xc) (σ:Ty) (r:Option R):Option R:=match getP p τ x with
    | some d=>(match Ha d.τ σ with | some _=>r | none=>none)
    | none=>none
  sizesV:List SV→List Nat
    | []=>[]
    | v :: r=>Jw v :: sizesV r
  natsEq:List Nat→List Nat→Bool
    | [],[]=>true
    | a :: r,b :: s=>Nat.beq a b && natsEq r s
    | _,_=>false
  fldV (u:SV) (p:Xc) (sizes:List Nat) (j:Nat) (r:Option R):Option R:=match getV u p with
    | some (.agv vs)=>bif natsEq (sizesV vs) sizes && Nat.blt j sizes.length then r else none
    | _=>none
def Uz (t:IT) (h:Nat→Obj) (x i:SV) (K:SV→Option R):Option R :=
  match i with
  | .dat (.int _) n _=>(match t with
    | .sl σ=>(match x with
      | .dat (.sl e) l []=>(match Ha e σ with | some _=>inB n (List.length l) fun j=>K (.ref e (List.getD l j (dft e))) | none=>none)
      | .dat (.sl _) _ [([],some g)]=>(match h g with
        | .arr e l=>(match Ha e σ with | some _=>inB n l.length fun j=>K (.elp g j []) | none=>none)
        | .frz e l=>(match Ha e σ with | some _=>inB n l.length fun j=>K (.elp g j []) | none=>none)
        | _=>none)
      | _=>none)
    | .arr M σ=>(match x with
      | .ref (.arr N e) l=>(match Ha e σ,Nat.beq N M with | some _,true=>inB n N fun j=>K (.ref e (List.getD l j (dft e))) | _,_=>none)
      | .ptr g p=>(match h g with
        | .box τ x _=>arrAt τ x p M σ n fun j=>K (.ptr g (p ++ [j]))
        | .fbox τ x _=>arrAt τ x p M σ n fun j=>K (.ptr g (p ++ [j]))
        | _=>none)
      | _=>none)
    | .slv sz=>(match x with
      | .slv vs=>(match n with
        | .ofNat j=>(match vs[j]? with | some v=>(match Nat.beq (Jw v) sz with | true=>K (.refv v) | false=>none) | none=>none)
        | _=>none)
      | _=>none))
  | _=>none
where
  arrAt (τ:Ty) (x:den τ) (p:Xc) (M:Nat) (σ:Ty) (n:Int) (K:Nat→Option R):Option R:=match getP p τ x with
    | some ⟨.arr N e,_⟩=>(match Ha e σ,Nat.beq N M with | some _,true=>inB n N K | _,_=>none)
    | _=>none
def AD0 (h:Nat→Obj) (x:SV) (K:SV→Option R):Option R :=
  match x with
  | .dat (.sl _) l []=>K (.dat (.int .i64) ((List.length l:Nat):Int) [])
  | .dat (.sl _) _ [([],some g)]=>(match h g with
    | .arr _ l=>K (.dat (.int .i64) ((List.length l:Nat):Int) [])
    | .frz _ l=>K (.dat (.int .i64) ((List.length l:Nat):Int) [])
    | _=>none)
  | .slv vs=>K (.dat (.int .i64) ((List.length vs:Nat):Int) [])
  | _=>none
def T9 (τ:Ty) (s:Nat→SV):(x:den τ)→(ov:List (Xc×Option Nat))→List (Nat×Opd)→(SV→Option R)→Option R
  | x,ov,[],K=>K (.dat τ x ov)
  | x,ov,(j,o) :: r,K=>match evO s o with
    | .dat σ y ov'=>match setP τ [j] x ⟨σ,y⟩ with
      | some x'=>T9 τ s x' (O9 [j] ov ++ Ce [j] ov') r K
      | none=>none
    | _=>none
def Pe (τ:Ty) (x:den τ) (h:Nat→Obj):List (Xc×Nat)→Option (List (Xc×Option Nat)×Eff)
  | []=>some ([],[])
  | (p,k) :: r=>match h k,getP p τ x,r.any (fun q=>Nat.beq q.2 k || Zy q.1 p),Pe τ x h r with
    | .none,some ⟨.sl e,_⟩,false,some (ov,es)=>some ((p,some k) :: ov,(k,.arr e []) :: es)
    | _,_,_,_=>none
def Ti (e:Ty) (s:Nat→SV):List Opd→Option (List (den e))
  | []=>some []
  | o :: r=>match evO s o with
    | .dat σ y []=>match Jt σ e y with
      | some z=>match Ti e s r with
        | some zs=>some (z :: zs)
        | none=>none
      | none=>none
    | _=>none
end
mutual
def noSl:Ty→Bool
  | .sl _=>false
  | .arr _ e=>noSl e
  | .st fs=>AJk fs
  | _=>true
def AJk:List Ty→Bool
  | []=>true
  | t :: r=>noSl t && AJk r
end
def Iu:List Sh→Bool
  | []=>true
  | .d τ :: r=>noSl τ && Iu r
  | _ :: _=>false
def Oe:List (Xc×Option Nat)→List Nat
  | []=>[]
  | (_,some g) :: r=>g :: Oe r
  | (_,none) :: r=>Oe r
def AAx (g:Nat):Xc→SV→Option (FuncId×List SV)
  | [],.clo f (.ptr g' [] :: caps)=>match Nat.beq g g' with | true=>some (f,caps) | false=>none
  | _,_=>none
mutual
def Qj (h:Nat→Obj):Nat→SV→Option (SV×List Nat)
  | 0,_=>none
  | n+1,v=>match v with
    | .dat τ x ov=>match resolve h τ x ov with
      | some y=>some (.dat τ y [],Oe ov)
      | none=>none
    | .ptr g p=>match h g with
      | .box τ x ov=>match resolve h τ x ov with
        | some y=>match getP p τ y with
          | some d=>some (.ref d.τ d.x,g :: Oe ov)
          | none=>none
        | none=>none
      | .fbox τ x ov=>match resolve h τ x ov with
        | some y=>match getP p τ y with
          | some d=>some (.ref d.τ d.x,g :: Oe ov)
          | none=>none
        | none=>none
      | .boxv v=>match AAx g p v with
        | some (f,caps)=>match Wy h n caps with
          | some (us,ids)=>some (.selfc f us,g :: ids)
          | none=>none
        | none=>match getV v p with
          | some v=>match Qj h n v with
            | some (u,ids)=>some (.refv u,g :: ids)
            | none=>none
          | none=>none
      | .fboxv v=>match AAx g p v with
        | some (f,caps)=>match Wy h n caps with
          | some (us,ids)=>some (.selfc f us,g :: ids)
          | none=>none
        | none=>match getV v p with
          | some v=>match Qj h n v with
            | some (u,ids)=>some (.refv u,g :: ids)
            | none=>none
          | none=>none
      | _=>none
    | .ref τ x=>some (.ref τ x,[])
    | .refv v=>match Qj h n v with | some (u,ids)=>some (.refv u,ids) | none=>none
    | .selfc f caps=>match Wy h n caps with | some (us,ids)=>some (.selfc f us,ids) | none=>none
    | .clo f caps=>match Wy h n caps with | some (us,ids)=>some (.clo f us,ids) | none=>none
    | .agv vs=>match Wy h n vs with | some (us,ids)=>some (.agv us,ids) | none=>none
    | .slv vs=>match Wy h n vs with | some (us,ids)=>some (.slv us,ids) | none=>none
    | .nilfn=>some (.nilfn,[])
    | _=>none
def Wy (h:Nat→Obj):Nat→List SV→Option (List SV×List Nat)
  | 0,_=>none
  | _+1,[]=>some ([],[])
  | n+1,v :: vs=>match Qj h n v with
    | some (u,ids)=>match Wy h n vs with
      | some (us,ids')=>some (u :: us,ids ++ ids')
      | none=>none
    | none=>none
end
def Qs (h:Nat→Obj):List Nat→Option Eff
  | []=>some []
  | g :: r=>match h g with
    | .arr e l=>match Qs h r with | some es=>some ((g,.frz e l) :: es) | none=>none
    | .frz _ _=>Qs h r
    | .box τ x ov=>match Qs h r with | some es=>some ((g,.fbox τ x ov) :: es) | none=>none
    | .boxv v=>match Qs h r with | some es=>some ((g,.fboxv v) :: es) | none=>none
    | .fbox .. => Qs h r
    | .fboxv _=>Qs h r
    | _=>none
abbrev Z0:=List (Nat×Xc)
def Zm (fr:Z0) (k:Nat×Xc):Bool:=fr.any fun f=>Nat.beq f.1 k.1 && Zy f.2 k.2
def Zp (fr:Z0):List ((Nat×Xc)×Nat)→Bool
  | []=>true
  | (k,_) :: r=>Zm fr k && !(r.any fun q=>Nat.beq q.1.1 k.1 && Zy q.1.2 k.2) && Zp fr r
def Rj:List SV→List ((Nat×Xc)×Nat)→Option (List SV×Eff)
  | vs,[]=>some (vs,[])
  | vs,((i,p),k) :: r=>match vs[i]? with
    | some (.dat τ x ov)=>match getP p τ x with
      | some ⟨.sl e,l⟩=>match setP τ p x ⟨.sl e,[]⟩ with
        | some x'=>match Rj (vs.set i (.dat τ x' (ov ++ [(p,some k)]))) r with
          | some (us,es)=>some (us,(k,.arr e l) :: es)
          | none=>none
        | none=>none
      | _=>none
    | _=>none
section
variable {R:Type}
def N3:List SV→SV
  | [v]=>v
  | vs=>.tup vs
def Y4 (κ ν:Ty) (i:den κ):List (den κ×den ν)→Option (den ν)
  | []=>none
  | (k,v) :: r=>if eqT κ i k then some v else Y4 κ ν i r
def H7 (κ ν:Ty) (i:den κ) (x:den ν):List (den κ×den ν)→List (den κ×den ν)
  | []=>[(i,x)]
  | (k,v) :: r=>if eqT κ i k then (i,x) :: r else (k,v) :: H7 κ ν i x r
def Cb (κ ν:Ty) (i:den κ):List (den κ×den ν)→Nat
  | []=>0
  | (k,_) :: r=>if eqT κ i k then 0 else Cb κ ν i r+1
def Pt (κ ν:Ty) (i:den κ) (l:List (den κ×den ν)):List (den κ×den ν):=match Y4 κ ν i l with
  | some _=>l
  | none=>l ++ [(i,dft ν)]
def Ml (κ ν:Ty):Nat→den ν→List (den κ×den ν)→List (den κ×den ν)
  | _,_,[]=>[]
  | 0,x,(k,_) :: r=>(k,x) :: r
  | n+1,x,e :: r=>e :: Ml κ ν n x r
def Tl (s:Nat→SV):List Opd→Option (IntKind×List Int)
  | []=>none
  | [o]=>match evO s o with | .dat (.int k) n _=>some (k,[n]) | _=>none
  | o :: r=>match evO s o with
    | .dat (.int k) n _=>match Tl s r with
      | some (k',l)=>if k=k' then some (k,n :: l) else none
      | none=>none
    | _=>none
abbrev Calls:=FuncId→List SV→(res:List Sh)→Option (Xf res×Z0)
def Hz (h:Nat→Obj):List ((Nat×Xc)×Nat)→Bool
  | []=>true
  | (_,k) :: r=>(match h k with | .none=>true | _=>false) && Hz h r && !(r.any fun q=>Nat.beq q.2 k)
def Lz (h:Nat→Obj) (ids:List Nat) (res:List Sh) (x:Xf res) (keep:List ((Nat×Xc)×Nat)) (K:SV→Eff→Option R):Option R :=
  match (match Iu res,keep with | true,[]=>some [] | _,_=>Qs h ids) with
  | some es=>(match Rj (Kl res x) keep with
    | some (vs,es')=>K (N3 vs) (es ++ es')
    | none=>none)
  | none=>none
def P6 (cf:Calls) (h:Nat→Obj) (f:SV) (args:List SV) (res:List Sh) (keep:List ((Nat×Xc)×Nat)) (opt:Bool) (K:SV→Eff→Option R):Option R :=
  match f with
  | .clo fid caps=>match Wy h 60 (args ++ caps) with
    | some (as,ids)=>(cf fid as res).bind fun r =>
        bif Zp r.2 keep then (bif Hz h keep then Lz h ids res r.1 keep K else none)
        else (match opt with | true=>Lz h ids res r.1 [] K | false=>none)
    | none=>none
  | .refv _=>none
  | _=>none
def gop (cf:Calls) (s:Nat→SV) (h:Nat→Obj) (o:GOp) (K:SV→Eff→Option R):Option R :=
  match o with
  | .move x=>K (evO s x) []
  | .mknil k e=>match h k with
    | .none=>K (.dat (.sl e) [] [([],some k)]) [(k,.arr e [])]
    | _=>none
  | .pick c a b=>match evO s c with
    | .dat .bool t _=>(match evO s a,evO s b with
      | .dat .bool x _,.dat .bool y _=>K (.dat .bool (bif t then x else y) []) []
      | .dat .bool x _,.und=>bif t then K (.dat .bool x []) [] else none
      | .und,.dat .bool y _=>bif t then none else K (.dat .bool y []) []
      | _,_=>none)
    | _=>none
  | .newbox k τ nils=>match h k,Pe τ (dft τ) h nils,nils.any (fun q=>Nat.beq q.2 k) with
    | .none,some (ov,es),false=>K (.ptr k []) ((k,.box τ (dft τ) ov) :: es)
    | _,_,_=>none
  | .newboxv k z=>match h k,AA5 z with
    | .none,true=>K (.ptr k []) [(k,.boxv z)]
    | _,_=>none
  | .box k x=>match h k with
    | .none=>(match evO s x with
      | .dat τ x ov=>K (.ptr k []) [(k,.box τ x ov)]
      | .clo f caps=>K (.ptr k []) [(k,.boxv (.clo f caps))]
      | _=>none)
    | _=>none
  | .load t a=>Fy t h (evO s a) fun v=>K v []
  | .store t a v=>(match okL t (evO s v) with | true=>Ni h (evO s a) (evO s v) fun e=>K .junk e | false=>none)
  | .bin op x y=>AJ6 op (evO s x) (evO s y) fun v=>K v []
  | .eqs τ neg x y=>ANr τ neg (evO s x) (evO s y) fun v=>K v []
  | .not x=>match evO s x with | .dat .bool b _=>K (.dat .bool (!b) []) [] | _=>none
  | .neg x=>match evO s x with | .dat (.int k) n _=>K (.dat (.int k) (k.wrap (0 - n)) []) [] | _=>none
  | .conv k x=>match evO s x with | .dat (.int _) n _=>K (.dat (.int k) (k.wrap n) []) [] | _=>none
  | .fieldAddr t j a=>Yo h t j (evO s a) fun v=>K v []
  | .field τ j a=>match evO s a with
    | .dat σ x ov=>(match Ha σ τ with | some _=>Ds σ x ov [j] fun v=>K v [] | none=>none)
    | _=>none
  | .index t x i=>Uz t h (evO s x) (evO s i) fun v=>K v []
  | .len x=>AD0 h (evO s x) fun v=>K v []
  | .lens x=>match evO s x with
    | .dat .str y _=>K (.dat (.int .i64) ((ByteArray.size y:Nat):Int) []) []
    | _=>none
  | .max xs=>match Tl s xs with | some (k,n :: l)=>K (.dat (.int k) (l.foldl (fun a b=>if a<b then b else a) n) []) [] | _=>none
  | .min xs=>match Tl s xs with | some (k,n :: l)=>K (.dat (.int k) (l.foldl (fun a b=>if b<a then b else a) n) []) [] | _=>none
  | .build τ parts nils=>match Pe τ (dft τ) h nils with
    | some (ov,es)=>T9 τ s (dft τ) ov parts fun v=>K v es
    | none=>none
  | .buildv sizes parts=>match Rv sizes (parts.map (evO s)) with | true=>K (.agv (parts.map (evO s))) [] | false=>none
  | .slice k e parts=>match h k,Ti e s parts with
    | .none,some l=>K (.dat (.sl e) [] [([],some k)]) [(k,.arr e l)]
    | _,_=>none
  | .slicev n parts=>match AAy n (parts.map (evO s)) with | true=>K (.slv (parts.map (evO s))) [] | false=>none
  | .make k e n=>match h k,evO s n with
    | .none,.dat (.int _) n _=>if 0≤n∧n≤1048576 then K (.dat (.sl e) [] [([],some k)]) [(k,.arr e (List.replicate n.toNat (dft e)))] else none
    | _,_=>none
  | .append k e x y=>match evO s x,evO s y,h k with
    | .dat (.sl e0) _ [([],some g)],.dat σ l' ov',.none=>(match h g with
      | .arr e1 l=>(match Ha e0 e,Ha e1 e,resolve h σ l' ov' with
        | some _,some _,some l'=>(match Jt σ (.sl e1) l' with
          | some l'=>if List.length l+List.length l'≤1048576 then K (.dat (.sl e) [] [([],some k)]) [(g,.dead),(k,.arr e1 (l ++ l'))] else none
          | none=>none)
        | _,_,_=>none)
      | _=>none)
    | _,_,_=>none
  | .extract x i=>match evO s x with | .tup vs=>(match vs[i]? with | some v=>K v [] | none=>none) | _=>none
  | .func f caps=>K (.clo f (caps.map (evO s))) []
  | .mkmap k κ ν=>match h k with
    | .none=>K (.ptr k []) [(k,.map κ ν [])]
    | _=>none
  | .lookup κ0 ν0 m i=>match evO s m,evO s i with
    | .ptr g [],.dat σ y []=>(match h g with
      | .map κ ν l=>(match Jt σ κ y,Ha κ κ0,Ha ν ν0 with
        | some i,some _,some _=>K (.dat ν ((Y4 κ ν i l).getD (dft ν)) []) []
        | _,_,_=>none)
      | _=>none)
    | _,_=>none
  | .mapset κ0 ν0 m i v=>match evO s m,evO s i,evO s v with
    | .ptr g [],.dat σ y [],.dat ρ z []=>(match h g with
      | .map κ ν l=>(match Jt σ κ y,Jt ρ ν z,Ha κ κ0,Ha ν ν0 with
        | some i,some x,some _,some _=>K .junk [(g,.map κ ν (H7 κ ν i x l))]
        | _,_,_,_=>none)
      | _=>none)
    | _,_,_=>none
  | .mapent κ0 ν0 m i=>match evO s m,evO s i with
    | .ptr g [],.dat σ y []=>(match h g with
      | .map κ ν l=>(match Jt σ κ y,Ha κ κ0,Ha ν ν0 with
        | some i,some _,some _=>K (.tup [.dat ν ((Y4 κ ν i l).getD (dft ν)) [],.dat (.int .i64) ((Cb κ ν i l:Nat):Int) []]) [(g,.map κ ν (Pt κ ν i l))]
        | _,_,_=>none)
      | _=>none)
    | _,_=>none
  | .mapst κ0 ν0 m e v=>match evO s m,evO s e,evO s v with
    | .ptr g [],.dat (.int .i64) n _,.dat ρ z []=>(match h g with
      | .map κ ν l=>(match Jt ρ ν z,Ha κ κ0,Ha ν ν0 with
        | some x,some _,some _=>if (0:Int)≤n∧n<((List.length l:Nat):Int) then K .junk [(g,.map κ ν (Ml κ ν (Int.toNat n) x l))] else none
        | _,_,_=>none)
      | _=>none)
    | _,_,_=>none
  | .lookv m i ok=>match evO s m,evO s i with
    | .fmap ks vs,.dat (.int .i64) n []=>Tn n ks vs fun v b=>K (ACc ok v b) []
    | _,_=>none
  | .slx e x lo hi=>match evO s x with
    | .dat (.sl _) _ [([],some g)]=>(match h g with
      | .frz e1 l=>(match Ha e1 e,I2 s lo 0,I2 s hi ((List.length l:Nat):Int) with
        | some _,some a,some b=>if 0≤a∧a≤b∧b≤((List.length l:Nat):Int) then K (.dat (.sl e1) ((l.take b.toNat).drop a.toNat) []) [] else none
        | _,_,_=>none)
      | _=>none)
    | _=>none
  | .call f args res keep opt=>P6 cf h (evO s f) (args.map (evO s)) res keep opt K
  | .fail=>none
  | .slicearr M σ x=>match evO s x with
    | .glo k=>AHu (P8 k) M σ fun l=>K (.dat (.sl σ) l []) []
    | .ptr g []=>(match h g with
      | .box (.arr N e) l []=>(match Ha e σ,Nat.beq N M with | some _,true=>K (.dat (.sl e) l []) [(g,.dead)] | _,_=>none)
      | _=>none)
    | _=>none
structure Ln where
  d:Option Nat
  op:GOp
  g:Option (Nat×Bool):=none
  rd:List Nat:=[]
  wr:List Nat:=[]
inductive Cd where
  | skip
  | reg (draw:Bool) (l:List Ln)
  | tidy (kill:List Nat) (mv:List (Nat×Nat)) (drop:List Nat) (trunc:Option Nat)
  | frz (ids:List Nat)
  | seq (a b:Cd)
  | cond (c:Opd) (a b:Cd)
  | block (id:Nat) (a:Cd)
  | loop (a:Cd)
  | exit (id:Nat)
  | ret
inductive Ex where
  | norm | exit (id:Nat) | ret
def AAc (ids:List Nat) (h:Nat→Obj):Nat→Obj:=fun g=>match ids.any (Nat.beq g) with | true=>h g | false=>.hid
def ABq (wr:List Nat):Eff→Bool
  | []=>true
  | (g,_) :: r=>wr.any (Nat.beq g) && ABq wr r
def AAi (cf:Calls) (draw:Bool) (l:Ln) (s:Xp) (h:Qa) (K:Xp→Qa→Option R):Option R :=
  match draw with
  | false=>gop cf (Xz s) (Xu h) l.op fun v e=>K (Mt s l.d v) (Pm h e)
  | true=>gop cf (Xz s) (AAc (l.rd ++ l.wr) (Xu h)) l.op fun v e=>match ABq l.wr e with
    | true=>K (Mt s l.d v) (Pm h e)
    | false=>none
def Qh (cf:Calls) (draw:Bool):List Ln→Xp→Qa→(Xp→Qa→Option R)→Option R
  | [],s,h,K=>K s h
  | l :: r,s,h,K=>match l.g with
    | none=>AAi cf draw l s h fun s h=>Qh cf draw r s h K
    | some (j,true)=>(match Xz s j with
      | .dat .bool b []=>bif b then AAi cf draw l (Nv s j (.dat .bool true [])) h fun s h=>Qh cf draw r s h K
          else Qh cf draw r (Mt (Nv s j (.dat .bool false [])) l.d .und) h K
      | .und=>Qh cf draw r (Mt s l.d .und) h K
      | _=>none)
    | some (j,false)=>(match Xz s j with
      | .dat .bool b []=>bif b then Qh cf draw r (Mt (Nv s j (.dat .bool true [])) l.d .und) h K
          else AAi cf draw l (Nv s j (.dat .bool false [])) h fun s h=>Qh cf draw r s h K
      | .und=>Qh cf draw r (Mt s l.d .und) h K
      | _=>none)
def Uo (p:Nat→Bool):List (Xc×Option Nat)→Bool
  | []=>true
  | (_,some g) :: r=>p g && Uo p r
  | (_,none) :: r=>Uo p r
mutual
def U6 (p:Nat→Bool):SV→Bool
  | .dat _ _ ov=>Uo p ov
  | .ptr g _=>p g
  | .ref _ _=>true
  | .refv v=>U6 p v
  | .selfc _ caps=>Nz p caps
  | .glo _=>true
  | .elp g _ _=>p g
  | .clo _ caps=>Nz p caps
  | .tup vs=>Nz p vs
  | .slv vs=>Nz p vs
  | .fmap _ vs=>Nz p vs
  | .agv vs=>Nz p vs
  | .nilfn=>true
  | .und=>true
  | .junk=>true
def Nz (p:Nat→Bool):List SV→Bool
  | []=>true
  | v :: r=>U6 p v && Nz p r
end
def AEr (p:Nat→Bool):Obj→Bool
  | .box _ _ ov=>Uo p ov
  | .boxv v=>U6 p v
  | .fbox _ _ ov=>Uo p ov
  | .fboxv v=>U6 p v
  | _=>true
def Ly (p:Nat→Bool):Xp→Bool
  | []=>true
  | (_,v) :: r=>U6 p v && Ly p r
def Lx (p:Nat→Bool):Qa→Bool
  | []=>true
  | o :: r=>AEr p o && Lx p r
def neI (n g:Nat):Bool:=match Nat.beq g n with | true=>false | false=>true
def ltI (n g:Nat):Bool:=Nat.blt g n
def ABg (a b g:Nat):Nat:=match Nat.beq g a with | true=>b | false=>g
def K1 (f:Nat→Nat):List (Xc×Option Nat)→List (Xc×Option Nat)
  | []=>[]
  | (q,some g) :: r=>(q,some (f g)) :: K1 f r
  | (q,none) :: r=>(q,none) :: K1 f r
mutual
def Vo (f:Nat→Nat):SV→SV
  | .dat τ x ov=>.dat τ x (K1 f ov)
  | .ptr g p=>.ptr (f g) p
  | .ref τ x=>.ref τ x
  | .refv v=>.refv (Vo f v)
  | .selfc c caps=>.selfc c (Kj f caps)
  | .glo k=>.glo k
  | .elp g i p=>.elp (f g) i p
  | .clo c caps=>.clo c (Kj f caps)
  | .tup vs=>.tup (Kj f vs)
  | .slv vs=>.slv (Kj f vs)
  | .fmap ks vs=>.fmap ks (Kj f vs)
  | .agv vs=>.agv (Kj f vs)
  | .nilfn=>.nilfn
  | .und=>.und
  | .junk=>.junk
def Kj (f:Nat→Nat):List SV→List SV
  | []=>[]
  | v :: r=>Vo f v :: Kj f r
end
def U0 (f:Nat→Nat):Obj→Obj
  | .box τ x ov=>.box τ x (K1 f ov)
  | .boxv v=>.boxv (Vo f v)
  | .fbox τ x ov=>.fbox τ x (K1 f ov)
  | .fboxv v=>.fboxv (Vo f v)
  | o=>o
def AGi (f:Nat→Nat):Xp→Xp
  | []=>[]
  | (i,v) :: r=>(i,Vo f v) :: AGi f r
def AOq (s:Xp) (h:Qa) (a b:Nat) (K:Xp→Qa→Option R):Option R :=
  match Xu h a with
  | .none=>K s h
  | _=>match Ly (neI b) s && Lx (neI b) h && !(Nat.beq a b) with
  | true=>K (AGi (ABg a b) s) (Px (Px (h.map (U0 (ABg a b))) b (Xu (h.map (U0 (ABg a b))) a)) a .none)
  | false=>none
def Ik:List (Nat×Nat)→Xp→Qa→(Xp→Qa→Option R)→Option R
  | [],s,h,K=>K s h
  | (a,b) :: r,s,h,K=>AOq s h a b fun s h=>Ik r s h K
def Ma:List Nat→Xp→Qa→(Xp→Qa→Option R)→Option R
  | [],s,h,K=>K s h
  | g :: r,s,h,K=>match Xu h g with
    | .none=>Ma r s h K
    | _=>match Ly (neI g) s && Lx (neI g) h with
      | true=>Ma r s (Px h g .none) K
      | false=>none
def Dv (n:Option Nat) (s:Xp) (h:Qa) (K:Xp→Qa→Option R):Option R :=
  match n with
  | none=>K s h
  | some n=>match Ly (ltI n) s && Lx (ltI n) (h.take n) with
    | true=>K s (h.take n)
    | false=>none
abbrev Kt (R:Type):=Ex→Xp→Qa→Option R
def Pa (body:Kt R→Kt R→Xp→Qa→Option R):Nat→Kt R→Xp→Qa→Option R
  | 0,_,_,_=>none
  | m+1,K,s,h=>body (fun _ s h=>Pa body m K s h) K s h
def Jf (run:Cd→Kt R→Kt R→Xp→Qa→Option R) (b:Cd) (Kn K:Kt R):Kt R:=fun _ s h=>run b Kn K s h
def Jr (id:Nat) (Kn K:Kt R):Kt R:=fun ex s h=>match ex with
  | .exit i=>(match Nat.beq i id with | true=>Kn .norm s h | false=>K (.exit i) s h)
  | ex=>K ex s h
def run (cf:Calls) (lp:Nat):Cd→Kt R→Kt R→Xp→Qa→Option R
  | .skip,Kn,_,s,h=>Kn .norm s h
  | .reg draw l,Kn,_,s,h=>Qh cf draw l s h fun s h=>Kn .norm s h
  | .tidy kill mv dr tr,Kn,_,s,h=>Ik mv (Ft kill s) h fun s h=>Ma dr s h fun s h=>Dv tr s h fun s h=>Kn .norm s h
  | .frz ids,Kn,_,s,h=>match Qs (Xu h) ids with
    | some es=>Kn .norm s (Pm h es)
    | none=>none
  | .seq a b,Kn,K,s,h=>run cf lp a (fun _ s h=>run cf lp b Kn K s h) K s h
  | .cond c a b,Kn,K,s,h=>match evO (Xz s) c with
    | .dat .bool t _=>bif t then run cf lp a Kn K s h else run cf lp b Kn K s h
    | _=>none
  | .block id a,Kn,K,s,h=>run cf lp a Kn (Jr id Kn K) s h
  | .loop a,_,K,s,h=>Pa (fun Kn K s h=>run cf lp a Kn K s h) lp K s h
  | .exit id,_,K,s,h=>K (.exit id) s h
  | .ret,_,K,s,h=>K .ret s h
inductive RV where
  | tmp (t:Nat)
  | cell (t:Nat) (l:LT)
structure Fn where
  np:Nat
  res:List RV
  body:Cd
def P3:Nat→List SV→Xp
  | _,[]=>[]
  | i,v :: r=>(i,v) :: P3 (i+1) r
def Ko:Xc→Ty→Bool
  | [],.sl _=>true
  | i :: p,.st fs=>(match fs[i]? with | some t=>Ko p t | none=>false)
  | _,_=>false
def Ms (τ:Ty):List (Xc×Option Nat)→Bool
  | []=>true
  | (q,_) :: r=>Ko q τ && !(r.any fun e=>Zy e.1 q) && Ms τ r
def H8 (s:Nat→SV) (h:Nat→Obj):RV→Option (SV×List (Xc×Nat)×List Nat)
  | .tmp t=>resFin h (s t)
  | .cell t l=>Fy l h (s t) fun v=>resFin h v
where
  resFin (h:Nat→Obj) (v:SV):Option (SV×List (Xc×Nat)×List Nat):=match v with
    | .dat τ x ov=>match resolve h τ x ov with
      | some y=>(match Ms τ ov with | true=>some (.dat τ y [],ovOwn h ov,[]) | false=>some (.dat τ y [],[],Oe ov))
      | none=>none
    | v=>match Qj h 60 v with | some (u,ids)=>some (u,[],ids) | none=>none
  ovOwn (h:Nat→Obj):List (Xc×Option Nat)→List (Xc×Nat)
    | []=>[]
    | (q,some g) :: r=>(match h g with | .arr _ _=>(q,g) :: ovOwn h r | _=>ovOwn h r)
    | (_,none) :: r=>ovOwn h r
def resAll (s:Nat→SV) (h:Nat→Obj):Nat→List RV→Option (List SV×List ((Nat×Xc)×Nat)×List Nat)
  | _,[]=>some ([],[],[])
  | i,r :: rs=>match H8 s h r with
    | some (v,o,l)=>match resAll s h (i+1) rs with
      | some (vs,os,ls)=>some (v :: vs,o.map (fun q=>((i,q.1),q.2)) ++ os,l ++ ls)
      | none=>none
    | none=>none
def Oc:List ((Nat×Xc)×Nat)→Bool
  | []=>true
  | (_,g) :: r => !(r.any fun q=>Nat.beq q.2 g) && Oc r
def T2:List ((Nat×Xc)×Nat)→Bool
  | []=>true
  | (k,_) :: r => !(r.any fun q=>Nat.beq q.1.1 k.1 && Zy q.1.2 k.2) && T2 r
def Oz (o:List ((Nat×Xc)×Nat)) (l:List Nat):Z0:=match Oc o && T2 o && o.all (fun q => !(l.any (Nat.beq q.2))) with
  | true=>o.map (·.1)
  | false=>[]
def Xk (fn:Fn) (res:List Sh):Kt (Xf res×Z0):=fun ex s h =>
  match ex with
  | .exit _=>none
  | _=>match resAll (Xz s) (Xu h) 0 fn.res with
  | some (vs,o,l)=>match Pv res vs with
    | some x=>some (x,Oz o l)
    | none=>none
  | none=>none
def He (prog:FuncId→Option Fn) (sp:Calls):Nat→Calls
  | 0,_,_,_=>none
  | n+1,f,as,res=>match prog f with
    | some fn=>match Nat.beq as.length fn.np with
      | true=>run (He prog sp n) n fn.body (Xk fn res) (Xk fn res) (P3 0 as) []
      | false=>none
    | none=>sp f as res
end
end Go.Proofs.YtmemggdjnfccfaaGreatDoor.Ghost
namespace Go.Proofs.YtmemggdjnfccfaaGreatDoor.Ghost
open Go
mutual
def Jv:Ty→Xc→Nat
  | .st fs,i :: p=>Uh fs i p
  | .arr _ e,i :: p=>i * Zi e+Jv e p
  | _,_=>0
def Uh:List Ty→Nat→Xc→Nat
  | [],_,_=>0
  | t :: _,0,p=>Jv t p
  | t :: r,n+1,p=>Zi t+Uh r n p
end
mutual
def okP:Ty→Xc→Prop
  | _,[]=>True
  | .st fs,i :: p=>okF fs i p
  | .arr n e,i :: p=>i<n∧okP e p
  | _,_=>False
def okF:List Ty→Nat→Xc→Prop
  | [],_,_=>False
  | t :: _,0,p=>okP t p
  | _ :: r,n+1,p=>okF r n p
end
structure Hl where
  b:Nat
  len:Nat
  cap:Nat
  es:Nat
  mp:Bool
  off:Xc→Nat
  ok:Xc→Prop
abbrev Xo:=Nat→Option Hl
abbrev Ov:=List (Xc×Option Nat)
def T6 (ρ:Xo) (g:Nat) (v:Value):Prop :=
  ∃ s a,ρ g=some s∧s.mp=false∧v=.slice a s.len s.cap∧(0<s.cap→a=some ⟨s.b,0,none⟩)
mutual
def Zl (A:Nat→Prop) (ρ:Xo) (w:World):(τ:Ty)→den τ→Ov→List Value→Prop
  | .bool,x,_,cs=>cs=[.bool x]
  | .int k,x,_,cs=>cs=[.int k x]
  | .str,x,_,cs=>cs=[.string x]
  | .sl e,l,ov,cs=>∃ a n c,cs=[.slice a n c]∧(∀ g,([],some g)∈ov→T6 ρ g (.slice a n c)) ∧
      ((∀ o,([],o) ∉ ov)→n=List.length l∧(0<n→∃ b o ds,a=some ⟨b,o,none⟩∧A b∧w.rangeAt b o ds∧ds.length=n * Zi e ∧
        ∀ i,i<n→Zl A ρ w e (List.getD l i (dft e)) [] ((ds.drop (i * Zi e)).take (Zi e))))
  | .arr n e,l,ov,cs=>List.length l=n∧cs.length=n * Zi e ∧
      ∀ i,i<n→Zl A ρ w e (List.getD l i (dft e)) (Vb [i] ov) ((cs.drop (i * Zi e)).take (Zi e))
  | .st fs,x,ov,cs=>Xx A ρ w fs 0 x ov cs
def Xx (A:Nat→Prop) (ρ:Xo) (w:World):(fs:List Ty)→Nat→Ho fs→Ov→List Value→Prop
  | [],_,_,_,cs=>cs=[]
  | t :: r,j,x,ov,cs=>Zl A ρ w t x.1 (Vb [j] ov) (cs.take (Zi t))∧Xx A ρ w r (j+1) x.2 ov (cs.drop (Zi t))
end
mutual
theorem Zl.length {A:Nat→Prop} {ρ:Xo} {w:World}:(τ:Ty)→{x:den τ}→{ov:Ov}→{cs:List Value}→Zl A ρ w τ x ov cs→cs.length=Zi τ
  | .bool,_,_,_,h=>by simp only [Zl] at h; subst h; rfl
  | .int _,_,_,_,h=>by simp only [Zl] at h; subst h; rfl
  | .str,_,_,_,h=>by simp only [Zl] at h; subst h; rfl
  | .sl _,_,_,_,h=>by simp only [Zl] at h; obtain ⟨_,_,_,rfl,_⟩:=h; rfl
  | .arr n e,_,_,_,h=>by simp only [Zl] at h; simpa only [Zi] using h.2.1
  | .st fs,_,_,_,h=>by simp only [Zl] at h; simpa only [Zi] using Xx.length fs h
theorem Xx.length {A:Nat→Prop} {ρ:Xo} {w:World}:(fs:List Ty)→{j:Nat}→{x:Ho fs}→{ov:Ov}→{cs:List Value}→Xx A ρ w fs j x ov cs→cs.length=Ui fs
  | [],_,_,_,_,h=>by simp only [Xx] at h; subst h; rfl
  | t :: r,_,_,_,_,h=>by
    simp only [Xx] at h
    have h1:=Zl.length t h.1
    have h2:=Xx.length r h.2
    simp only [List.length_take,List.length_drop] at h1 h2
    simp only [Ui]
    omega
end
mutual
theorem Zl.mono {A A':Nat→Prop} {ρ ρ':Xo} {w w':World} (hA:∀ b,A b→A' b) (hρ:∀ g s,ρ g=some s→ρ' g=some s)
    (hw:∀ b,A b→w'.heap[b]?=w.heap[b]?):(τ:Ty)→{x:den τ}→{ov:Ov}→{cs:List Value}→Zl A ρ w τ x ov cs→Zl A' ρ' w' τ x ov cs
  | .bool,_,_,_,h=>by simpa only [Zl] using h
  | .int _,_,_,_,h=>by simpa only [Zl] using h
  | .str,_,_,_,h=>by simpa only [Zl] using h
  | .sl e,_,_,_,h=>by
    simp only [Zl] at h ⊢
    obtain ⟨a,n,c,h1,h2,h3⟩:=h
    refine ⟨a,n,c,h1,fun g hg => ?_,fun hn=>⟨(h3 hn).1,fun hp => ?_⟩⟩
    · obtain ⟨s,ad,k1,k2⟩:=h2 g hg
      exact ⟨s,ad,hρ _ _ k1,k2⟩
    · obtain ⟨b,o,ds,k1,k2,k3,k4,k5⟩:=(h3 hn).2 hp
      refine ⟨b,o,ds,k1,hA b k2,fun j v hv => ?_,k4,fun i hi=>Zl.mono hA hρ hw e (k5 i hi)⟩
      have:=k3 j v hv
      unfold World.cell? at this ⊢
      simp only [hw b k2]
      exact this
  | .arr n e,_,_,_,h=>by
    simp only [Zl] at h ⊢
    exact ⟨h.1,h.2.1,fun i hi=>Zl.mono hA hρ hw e (h.2.2 i hi)⟩
  | .st fs,_,_,_,h=>by simp only [Zl] at h ⊢; exact Xx.mono hA hρ hw fs h
theorem Xx.mono {A A':Nat→Prop} {ρ ρ':Xo} {w w':World} (hA:∀ b,A b→A' b) (hρ:∀ g s,ρ g=some s→ρ' g=some s)
    (hw:∀ b,A b→w'.heap[b]?=w.heap[b]?):(fs:List Ty)→{j:Nat}→{x:Ho fs}→{ov:Ov}→{cs:List Value}→Xx A ρ w fs j x ov cs→Xx A' ρ' w' fs j x ov cs
  | [],_,_,_,_,h=>by simpa only [Xx] using h
  | t :: r,_,_,_,_,h=>by
    simp only [Xx] at h ⊢
    exact ⟨Zl.mono hA hρ hw t h.1,Xx.mono hA hρ hw r h.2⟩
end
theorem Qu {p q:Xc} {o:Option Nat}:{ov:Ov}→((q,o)∈Vb p ov↔(p ++ q,o)∈ov):=by
  have We:∀ (p q r:Xc),Gm p q=some r↔q=p ++ r:=by
    intro p
    induction p with
    | nil=>intro q r; simp [Gm,eq_comm]
    | cons i p ih =>
      intro q r
      cases q with
      | nil=>simp [Gm]
      | cons j q =>
        simp only [Gm]
        cases hb:Nat.beq i j with
        | true =>
          have:=Nat.eq_of_beq_eq_true hb
          subst this
          simp [ih]
        | false =>
          have:i≠j:=fun e=>by subst e; simp [Nat.beq_refl] at hb
          simp [Ne.symm this]
  intro ov
  induction ov with
  | nil=>simp [Vb]
  | cons e r ih =>
    obtain ⟨q',o'⟩:=e
    simp only [Vb]
    cases hs:Gm p q' with
    | none =>
      simp only [List.mem_cons,Prod.mk.injEq]
      rw [ih]
      constructor
      · exact .inr
      · rintro (⟨h,_⟩ | h)
        · rw [(We p q' q).2 h.symm] at hs; cases hs
        · exact h
    | some q'' =>
      have:=(We p q' q'').1 hs
      subst this
      simp only [List.mem_cons,Prod.mk.injEq,ih,List.append_cancel_left_eq]
theorem Cf {ov ov':Ov} (h:∀ e,e∈ov↔e∈ov') (p:Xc):∀ e,e∈Vb p ov↔e∈Vb p ov':=fun ⟨q,o⟩=>by
  rw [Qu,Qu]; exact h _
mutual
theorem Zl.ov {A:Nat→Prop} {ρ:Xo} {w:World}:(τ:Ty)→{x:den τ}→{ov ov':Ov}→{cs:List Value}→(∀ e,e∈ov↔e∈ov')→Zl A ρ w τ x ov cs→Zl A ρ w τ x ov' cs
  | .bool,_,_,_,_,_,h=>by simpa only [Zl] using h
  | .int _,_,_,_,_,_,h=>by simpa only [Zl] using h
  | .str,_,_,_,_,_,h=>by simpa only [Zl] using h
  | .sl e,_,_,_,_,he,h=>by
    simp only [Zl] at h ⊢
    obtain ⟨a,n,c,h1,h2,h3⟩:=h
    exact ⟨a,n,c,h1,fun g hg=>h2 g ((he _).2 hg),fun hn=>h3 (fun o ho=>hn o ((he _).1 ho))⟩
  | .arr n e,_,_,_,_,he,h=>by
    simp only [Zl] at h ⊢
    exact ⟨h.1,h.2.1,fun i hi=>Zl.ov e (Cf he _) (h.2.2 i hi)⟩
  | .st fs,_,_,_,_,he,h=>by simp only [Zl] at h ⊢; exact Xx.ov fs he h
theorem Xx.ov {A:Nat→Prop} {ρ:Xo} {w:World}:(fs:List Ty)→{j:Nat}→{x:Ho fs}→{ov ov':Ov}→{cs:List Value}→(∀ e,e∈ov↔e∈ov')→Xx A ρ w fs j x ov cs→Xx A ρ w fs j x ov' cs
  | [],_,_,_,_,_,_,h=>by simpa only [Xx] using h
  | t :: r,_,_,_,_,_,he,h=>by
    simp only [Xx] at h ⊢
    exact ⟨Zl.ov t (Cf he _) h.1,Xx.ov r he h.2⟩
end
theorem Cg (p q:Xc) (ov:Ov):∀ e,e∈Vb q (Vb p ov)↔e∈Vb (p ++ q) ov:=fun ⟨r,o⟩=>by
  rw [Qu,Qu,Qu,List.append_assoc]
def cut (cs:List Value) (o n:Nat):List Value:=(cs.drop o).take n
theorem Ot (cs:List Value) (o n o' n':Nat) (h:o'+n'≤n):cut (cut cs o n) o' n'=cut cs (o+o') n':=by
  unfold cut
  rw [List.drop_take,List.drop_drop,List.take_take,Nat.min_eq_left (by omega)]
theorem N9 (cs:List Value) (n:Nat):cut cs 0 n=cs.take n:=rfl
theorem AI3 (cs:List Value) (n:Nat) (h:cs.length=n):cut cs 0 n=cs:=by subst h; simp [cut]
mutual
theorem O8:(τ:Ty)→(p:Xc)→(x:den τ)→(d:Dyn)→okP τ p→getP p τ x=some d→Jv τ p+Zi d.τ≤Zi τ
  | τ,[],x,d,_,h=>by
    have:d=⟨τ,x⟩:=by cases τ <;> simpa [getP,eq_comm] using h
    subst this
    cases τ <;> simp [Jv]
  | .st fs,i :: p,x,d,hk,h=>by
    simp only [Jv,Zi]
    simp only [okP] at hk
    simp only [getP] at h
    exact AJl fs i p x d hk h
  | .arr n e,i :: p,x,d,hk,h=>by
    simp only [Jv,Zi]
    simp only [okP] at hk
    simp only [getP] at h
    have h1:=O8 e p _ d hk.2 h
    have:(i+1) * Zi e≤n * Zi e:=Nat.mul_le_mul_right _ hk.1
    rw [Nat.add_mul,Nat.one_mul] at this
    omega
  | .bool,_ :: _,_,_,hk,_=>by simp [okP] at hk
  | .int _,_ :: _,_,_,hk,_=>by simp [okP] at hk
  | .str,_ :: _,_,_,hk,_=>by simp [okP] at hk
  | .sl _,_ :: _,_,_,hk,_=>by simp [okP] at hk
theorem AJl:(fs:List Ty)→(i:Nat)→(p:Xc)→(x:Ho fs)→(d:Dyn)→okF fs i p →
    (match Uf fs i x with | some d=>getP p d.τ d.x | none=>none)=some d→Uh fs i p+Zi d.τ≤Ui fs
  | [],_,_,_,_,hk,_=>by simp [okF] at hk
  | t :: r,0,p,x,d,hk,h=>by
    simp only [okF] at hk
    simp only [Uf] at h
    have:=O8 t p x.1 d hk h
    simp only [Uh,Ui]
    omega
  | t :: r,n+1,p,x,d,hk,h=>by
    simp only [okF] at hk
    simp only [Uf] at h
    have:=AJl r n p x.2 d hk h
    simp only [Uh,Ui]
    omega
end
mutual
theorem Zl.getP {A:Nat→Prop} {ρ:Xo} {w:World}:(τ:Ty)→(p:Xc)→{x:den τ}→{ov:Ov}→{cs:List Value}→{d:Dyn}→Zl A ρ w τ x ov cs→okP τ p →
    getP p τ x=some d→Zl A ρ w d.τ d.x (Vb p ov) (cut cs (Jv τ p) (Zi d.τ))
  | τ,[],x,ov,cs,d,h,_,hg=>by
    have:d=⟨τ,x⟩:=by cases τ <;> simpa [Ghost.getP,eq_comm] using hg
    subst this
    have h0:Jv τ []=0:=by cases τ <;> rfl
    rw [h0,AI3 _ _ (Zl.length τ h)]
    exact Zl.ov τ (fun ⟨q,o⟩=>by rw [Qu]; rfl) h
  | .st fs,i :: p,x,ov,cs,d,h,hk,hg=>by
    simp only [Zl] at h
    simp only [okP] at hk
    simp only [Ghost.getP] at hg
    simp only [Jv]
    have:=Xx.getP fs 0 i p h hk hg
    simpa only [Nat.zero_add] using this
  | .arr n e,i :: p,x,ov,cs,d,h,hk,hg=>by
    simp only [Zl] at h
    simp only [okP] at hk
    simp only [Ghost.getP] at hg
    simp only [Jv]
    have h1:=Zl.getP e p (h.2.2 i hk.1) hk.2 hg
    have h2:=O8 e p _ d hk.2 hg
    rw [show (List.drop (i * Zi e) cs).take (Zi e)=cut cs (i * Zi e) (Zi e) from rfl,Ot _ _ _ _ _ h2] at h1
    exact Zl.ov d.τ (Cg [i] p ov) h1
  | .bool,_ :: _,_,_,_,_,_,hk,_=>by simp [okP] at hk
  | .int _,_ :: _,_,_,_,_,_,hk,_=>by simp [okP] at hk
  | .str,_ :: _,_,_,_,_,_,hk,_=>by simp [okP] at hk
  | .sl _,_ :: _,_,_,_,_,_,hk,_=>by simp [okP] at hk
theorem Xx.getP {A:Nat→Prop} {ρ:Xo} {w:World}:(fs:List Ty)→(j i:Nat)→(p:Xc)→{x:Ho fs}→{ov:Ov}→{cs:List Value}→{d:Dyn}→Xx A ρ w fs j x ov cs→okF fs i p →
    (match Uf fs i x with | some d=>Ghost.getP p d.τ d.x | none=>none)=some d→Zl A ρ w d.τ d.x (Vb ((j+i) :: p) ov) (cut cs (Uh fs i p) (Zi d.τ))
  | [],_,_,_,_,_,_,_,_,hk,_=>by simp [okF] at hk
  | t :: r,j,0,p,x,ov,cs,d,h,hk,hg=>by
    simp only [Xx] at h
    simp only [okF] at hk
    simp only [Uf] at hg
    simp only [Uh]
    have h1:=Zl.getP t p h.1 hk hg
    have h2:=O8 t p _ d hk hg
    rw [← N9,Ot _ _ _ _ _ h2,Nat.zero_add] at h1
    exact Zl.ov d.τ (Cg [j] p ov) h1
  | t :: r,j,n+1,p,x,ov,cs,d,h,hk,hg=>by
    simp only [Xx] at h
    simp only [okF] at hk
    simp only [Uf] at hg
    simp only [Uh]
    have h1:=Xx.getP r (j+1) n p h.2 hk hg
    have:cut (List.drop (Zi t) cs) (Uh r n p) (Zi d.τ)=cut cs (Zi t+Uh r n p) (Zi d.τ):=by
      unfold cut; rw [List.drop_drop]
    rw [this] at h1
    rw [show j+(n+1)=j+1+n by omega]
    exact h1
end
end Go.Proofs.YtmemggdjnfccfaaGreatDoor.Ghost
namespace Go.Proofs.YtmemggdjnfccfaaGreatDoor.Ghost
open Go
def V9 (cs:List Value) (o:Nat) (ds:List Value):List Value:=cs.take o ++ ds ++ cs.drop (o+ds.length)
theorem Vm {cs:List Value} {o:Nat} {ds:List Value} (h:o+ds.length≤cs.length):(V9 cs o ds).length=cs.length:=by
  simp only [V9,List.length_append,List.length_take,List.length_drop]; omega
theorem Je {cs:List Value} {o:Nat} {ds:List Value} (h:o+ds.length≤cs.length) (k:Nat) :
    (V9 cs o ds)[k]?=if k<o then cs[k]? else if k<o+ds.length then ds[k - o]? else cs[k]?:=by
  simp only [V9,List.append_assoc]
  by_cases h1:k<o
  · rw [if_pos h1,List.getElem?_append_left (by simp; omega),List.getElem?_take_of_lt h1]
  · rw [if_neg h1,List.getElem?_append_right (by simp; omega)]
    have:(List.take o cs).length=o:=by simp; omega
    rw [this]
    by_cases h2:k<o+ds.length
    · rw [if_pos h2,List.getElem?_append_left (by omega)]
    · rw [if_neg h2,List.getElem?_append_right (by omega),List.getElem?_drop]
      congr 1; omega
theorem Qi {cs:List Value} {o n:Nat} (k:Nat):(cut cs o n)[k]?=if k<n then cs[o+k]? else none:=by
  unfold cut
  by_cases h:k<n
  · rw [if_pos h,List.getElem?_take_of_lt h,List.getElem?_drop]
  · rw [if_neg h,List.getElem?_eq_none]; simp; omega
theorem O6 {cs:List Value} {o n:Nat} (h:o+n≤cs.length):(cut cs o n).length=n:=by
  unfold cut; simp only [List.length_take,List.length_drop]; omega
theorem Wk {cs:List Value} {o n o':Nat} {ds:List Value} (h:o+n≤cs.length) (h':o'+ds.length≤n) :
    cut (V9 cs (o+o') ds) o n=V9 (cut cs o n) o' ds:=by
  refine List.ext_getElem? fun k => ?_
  have hl:(cut cs o n).length=n:=O6 h
  rw [Qi,Je (by omega),Je (by omega),Qi]
  by_cases h1:k<n
  · simp only [h1,if_true]
    by_cases h2:k<o'
    · rw [if_pos (by omega),if_pos h2]
    · rw [if_neg (by omega),if_neg h2]
      by_cases h3:k<o'+ds.length
      · rw [if_pos (by omega),if_pos h3]; congr 1; omega
      · rw [if_neg (by omega),if_neg h3]
  · simp only [h1,if_false]
    rw [if_neg (by omega),if_neg (by omega)]
theorem Gf {cs:List Value} {o n o':Nat} {ds:List Value} (h:o'+ds.length≤cs.length) (h':o+n≤o'∨o'+ds.length≤o) :
    cut (V9 cs o' ds) o n=cut cs o n:=by
  refine List.ext_getElem? fun k => ?_
  rw [Qi,Qi,Je h]
  by_cases h1:k<n
  · simp only [h1,if_true]
    rcases h' with h' | h'
    · rw [if_pos (by omega)]
    · rw [if_neg (by omega),if_neg (by omega)]
  · simp only [h1,if_false]
theorem R5 (cs:List Value) (o:Nat):cs.drop o=cut cs o (cs.length - o):=by
  unfold cut; rw [List.take_of_length_le]; simp
def Wt (p:Xc) (ov ov' ov'':Ov):Prop:=∀ e,e∈ov''↔(e∈ov∧Gm p e.1=none)∨(∃ q,Gm p e.1=some q∧(q,e.2)∈ov')
theorem Wt.nil {ov ov' ov'':Ov} (h:Wt [] ov ov' ov''):∀ e,e∈ov'↔e∈ov'':=fun ⟨q,o⟩=>by
  rw [h (q,o)]; simp [Gm]
theorem Wt.same {i:Nat} {p:Xc} {ov ov' ov'':Ov} (h:Wt (i :: p) ov ov' ov''):Wt p (Vb [i] ov) ov' (Vb [i] ov''):=fun ⟨q,o⟩=>by
  rw [Qu,Qu,h ([i] ++ q,o)]; simp [Gm]
theorem Wt.other {i j:Nat} {p:Xc} {ov ov' ov'':Ov} (h:Wt (i :: p) ov ov' ov'') (hij:j≠i):∀ e,e∈Vb [j] ov↔e∈Vb [j] ov'':=fun ⟨q,o⟩=>by
  have:Nat.beq i j=false:=by
    cases hb:Nat.beq i j with
    | false=>rfl
    | true=>exact absurd (Nat.eq_of_beq_eq_true hb).symm hij
  rw [Qu,Qu,h ([j] ++ q,o)]; simp [Gm,this]
theorem ACi {e x:Xc×Option Nat}:{ov:Ov}→(x∈AGo e ov↔x=e∨x∈ov)
  | []=>by simp [AGo]
  | y :: r=>by
    simp only [AGo]
    split
    · simp
    · simp only [List.mem_cons,ACi (ov:=r)]
      constructor
      · rintro (h | h | h) <;> simp [h]
      · rintro (h | h | h) <;> simp [h]
theorem Mn {x:Xc×Option Nat}:{a b:Ov}→(x∈Lp a b↔x∈a∨x∈b)
  | [],_=>by simp [Lp]
  | e :: r,b=>by
    simp only [Lp,Mn (a:=r),ACi,List.mem_cons]
    constructor
    · rintro (h | h | h) <;> simp [h]
    · rintro ((h | h) | h) <;> simp [h]
theorem Ll {p:Xc} {e:Xc×Option Nat}:{ov:Ov}→(e∈Ce p ov↔∃ q,e.1=p ++ q∧(q,e.2)∈ov)
  | []=>by simp [Ce]
  | (q',o') :: r=>by
    obtain ⟨q,o⟩:=e
    simp only [Ce,List.mem_cons,Ll (ov:=r),Prod.mk.injEq]
    constructor
    · rintro (⟨rfl,rfl⟩ | ⟨q'',h1,h2⟩)
      · exact ⟨q',rfl,.inl ⟨rfl,rfl⟩⟩
      · exact ⟨q'',h1,.inr h2⟩
    · rintro ⟨q'',h1,⟨rfl,rfl⟩ | h2⟩
      · exact .inl ⟨h1,rfl⟩
      · exact .inr ⟨q'',h1,h2⟩
theorem Rn {p:Xc} {e:Xc×Option Nat}:{ov:Ov}→(e∈O9 p ov↔e∈ov∧Gm p e.1=none)
  | []=>by simp [O9]
  | (q',o') :: r=>by
    obtain ⟨q,o⟩:=e
    simp only [O9]
    cases hs:Gm p q' with
    | none =>
      simp only [List.mem_cons,Rn (ov:=r),Prod.mk.injEq]
      constructor
      · rintro (⟨rfl,rfl⟩ | h)
        · exact ⟨.inl ⟨rfl,rfl⟩,hs⟩
        · exact ⟨.inr h.1,h.2⟩
      · rintro ⟨⟨rfl,rfl⟩ | h,h'⟩
        · exact .inl ⟨rfl,rfl⟩
        · exact .inr ⟨h,h'⟩
    | some q'' =>
      simp only [List.mem_cons,Rn (ov:=r),Prod.mk.injEq]
      constructor
      · rintro ⟨h,h'⟩; exact ⟨.inr h,h'⟩
      · rintro ⟨⟨rfl,rfl⟩ | h,h'⟩
        · rw [hs] at h'; cases h'
        · exact ⟨h,h'⟩
theorem We {p q r:Xc}:Gm p q=some r↔q=p ++ r:=by
  induction p generalizing q r with
  | nil=>simp [Gm]
  | cons i p ih =>
    cases q with
    | nil=>simp [Gm]
    | cons j q =>
      simp only [Gm]
      cases hb:Nat.beq i j with
      | true =>
        have:=Nat.eq_of_beq_eq_true hb
        subst this
        simp [ih]
      | false =>
        have:i≠j:=fun e=>by subst e; simp [Nat.beq_refl] at hb
        simp [Ne.symm this]
theorem Wt.merge (p:Xc) (ov ov':Ov):Wt p ov ov' (Lp (Ce p ov') (O9 p ov)):=fun e=>by
  rw [Mn,Ll,Rn]
  constructor
  · rintro (⟨q,h1,h2⟩ | h)
    · exact .inr ⟨q,We.2 h1,h2⟩
    · exact .inl h
  · rintro (h | ⟨q,h1,h2⟩)
    · exact .inr h
    · exact .inl ⟨q,We.1 h1,h2⟩
theorem Yp {a b:Ty} {x:den a} {y:den b} (h:Jt a b x=some y):(⟨a,x⟩:Dyn)=⟨b,y⟩:=by
  unfold Jt at h
  split at h
  · rename_i e _
    subst e
    simp at h
    subst h; rfl
  · cases h
mutual
theorem Wd:(τ:Ty)→(p:Xc)→(x x':den τ)→(d:Dyn)→okP τ p→setP τ p x d=some x'→Jv τ p+Zi d.τ≤Zi τ
  | τ,[],x,x',d,_,h=>by
    have hc:Jt d.τ τ d.x=some x':=by cases τ <;> simpa only [setP] using h
    have:=Yp hc
    obtain ⟨σ,y⟩:=d
    cases this
    show Jv σ []+Zi σ≤Zi σ
    cases σ <;> simp [Jv]
  | .st fs,i :: p,x,x',d,hk,h=>by
    simp only [Jv,Zi]
    simp only [okP] at hk
    simp only [setP] at h
    exact Dq fs i p x x' d hk h
  | .arr n e,i :: p,x,x',d,hk,h=>by
    simp only [Jv,Zi]
    simp only [okP] at hk
    simp only [setP] at h
    cases hs:setP e p (List.getD x i (dft e)) d with
    | none=>rw [hs] at h; cases h
    | some y =>
      have h1:=Wd e p _ _ d hk.2 hs
      have:(i+1) * Zi e≤n * Zi e:=Nat.mul_le_mul_right _ hk.1
      rw [Nat.add_mul,Nat.one_mul] at this
      omega
  | .bool,_ :: _,_,_,_,hk,_=>by simp [okP] at hk
  | .int _,_ :: _,_,_,_,hk,_=>by simp [okP] at hk
  | .str,_ :: _,_,_,_,hk,_=>by simp [okP] at hk
  | .sl _,_ :: _,_,_,_,hk,_=>by simp [okP] at hk
theorem Dq:(fs:List Ty)→(i:Nat)→(p:Xc)→(x x':Ho fs)→(d:Dyn)→okF fs i p →
    K7 fs i p x d=some x'→Uh fs i p+Zi d.τ≤Ui fs
  | [],_,_,_,_,_,hk,_=>by simp [okF] at hk
  | t :: r,0,p,x,x',d,hk,h=>by
    simp only [okF] at hk
    simp only [K7] at h
    cases hs:setP t p x.1 d with
    | none=>rw [hs] at h; cases h
    | some y =>
      have:=Wd t p x.1 y d hk hs
      simp only [Uh,Ui]
      omega
  | t :: r,n+1,p,x,x',d,hk,h=>by
    simp only [okF] at hk
    simp only [K7] at h
    cases hs:K7 r n p x.2 d with
    | none=>rw [hs] at h; cases h
    | some y =>
      have:=Dq r n p x.2 y d hk hs
      simp only [Uh,Ui]
      omega
end
mutual
theorem Zl.setP {A:Nat→Prop} {ρ:Xo} {w:World}:(τ:Ty)→(p:Xc)→{x x':den τ}→{ov ov' ov'':Ov}→{cs ds:List Value}→{d:Dyn} →
    Zl A ρ w τ x ov cs→okP τ p→setP τ p x d=some x'→Zl A ρ w d.τ d.x ov' ds→Wt p ov ov' ov''→Zl A ρ w τ x' ov'' (V9 cs (Jv τ p) ds)
  | τ,[],x,x',ov,ov',ov'',cs,ds,d,h,_,hs,hd,hv=>by
    have hc:Jt d.τ τ d.x=some x':=by cases τ <;> simpa only [Ghost.setP] using hs
    have:=Yp hc
    obtain ⟨σ,y⟩:=d
    cases this
    have h0:Jv σ []=0:=by cases σ <;> rfl
    have h1:=Zl.length σ h
    have h2:ds.length=Zi σ:=Zl.length σ hd
    have:V9 cs (Jv σ []) ds=ds:=by
      unfold V9
      rw [h0,Nat.zero_add,List.drop_eq_nil_of_le (by omega)]; simp
    rw [this]
    exact Zl.ov σ hv.nil hd
  | .st fs,i :: p,x,x',ov,ov',ov'',cs,ds,d,h,hk,hs,hd,hv=>by
    simp only [Zl] at h ⊢
    simp only [okP] at hk
    simp only [Ghost.setP] at hs
    simp only [Jv]
    exact Xx.setP fs 0 i p h hk hs hd (by rw [Nat.zero_add]; exact hv)
  | .arr n e,i :: p,x,x',ov,ov',ov'',cs,ds,d,h,hk,hs,hd,hv=>by
    simp only [Zl] at h ⊢
    simp only [okP] at hk
    simp only [Ghost.setP] at hs
    simp only [Jv]
    cases hy:Ghost.setP e p (List.getD x i (dft e)) d with
    | none=>rw [hy] at hs; cases hs
    | some y =>
      rw [hy] at hs
      simp only [Option.some.injEq] at hs
      subst hs
      have h2:=Zl.length d.τ hd
      have h3:=Wd e p _ _ d hk.2 hy
      have h4:(i+1) * Zi e≤n * Zi e:=Nat.mul_le_mul_right _ hk.1
      rw [Nat.add_mul,Nat.one_mul] at h4
      refine ⟨by simpa using h.1,by rw [Vm (by omega)]; exact h.2.1,fun k hkn => ?_⟩
      have h4':(k+1) * Zi e≤n * Zi e:=Nat.mul_le_mul_right _ hkn
      rw [Nat.add_mul,Nat.one_mul] at h4'
      have hget:=h.2.2 k hkn
      change Zl A ρ w e _ _ (cut cs (k * Zi e) (Zi e)) at hget
      change Zl A ρ w e _ _ (cut _ (k * Zi e) (Zi e))
      by_cases hki:k=i
      · subst hki
        have h5:=Zl.setP e p hget hk.2 hy hd hv.same
        rw [Wk (by omega) (by omega)]
        have:List.getD (List.set x k y) k (dft e)=y:=by
          have hl:k<List.length x:=by omega
          rw [List.getD_eq_getElem?_getD,List.getElem?_set_self hl]; rfl
        rw [this]; exact h5
      · have:List.getD (List.set x i y) k (dft e)=List.getD x k (dft e):=by
          rw [List.getD_eq_getElem?_getD,List.getElem?_set_ne (Ne.symm hki),← List.getD_eq_getElem?_getD]
        rw [this,Gf (by omega) ?_]
        · exact Zl.ov e (hv.other hki) hget
        · rcases Nat.lt_or_gt_of_ne hki with hlt | hgt
          · left
            have:(k+1) * Zi e≤i * Zi e:=Nat.mul_le_mul_right _ hlt
            rw [Nat.add_mul,Nat.one_mul] at this
            omega
          · right
            have:(i+1) * Zi e≤k * Zi e:=Nat.mul_le_mul_right _ hgt
            rw [Nat.add_mul,Nat.one_mul] at this
            omega
  | .bool,_ :: _,_,_,_,_,_,_,_,_,_,hk,_,_,_=>by simp [okP] at hk
  | .int _,_ :: _,_,_,_,_,_,_,_,_,_,hk,_,_,_=>by simp [okP] at hk
  | .str,_ :: _,_,_,_,_,_,_,_,_,_,hk,_,_,_=>by simp [okP] at hk
  | .sl _,_ :: _,_,_,_,_,_,_,_,_,_,hk,_,_,_=>by simp [okP] at hk
theorem Xx.setP {A:Nat→Prop} {ρ:Xo} {w:World}:(fs:List Ty)→(j i:Nat)→(p:Xc)→{x x':Ho fs}→{ov ov' ov'':Ov}→{cs ds:List Value}→{d:Dyn} →
    Xx A ρ w fs j x ov cs→okF fs i p→K7 fs i p x d=some x'→Zl A ρ w d.τ d.x ov' ds→Wt ((j+i) :: p) ov ov' ov''→Xx A ρ w fs j x' ov'' (V9 cs (Uh fs i p) ds)
  | [],_,_,_,_,_,_,_,_,_,_,_,_,hk,_,_,_=>by simp [okF] at hk
  | t :: r,j,0,p,x,x',ov,ov',ov'',cs,ds,d,h,hk,hs,hd,hv=>by
    have hlen:=Xx.length (t :: r) h
    simp only [Ui] at hlen
    simp only [Xx] at h ⊢
    simp only [okF] at hk
    simp only [K7] at hs
    simp only [Uh]
    cases hy:Ghost.setP t p x.1 d with
    | none=>rw [hy] at hs; cases hs
    | some y =>
      rw [hy] at hs
      simp only [Option.some.injEq] at hs
      subst hs
      have h2:=Zl.length d.τ hd
      have h3:=Wd t p _ _ d hk hy
      have h5:=Zl.setP t p h.1 hk hy hd hv.same
      refine ⟨?_,?_⟩
      · have:=Wk (cs:=cs) (o:=0) (n:=Zi t) (o':=Jv t p) (ds:=ds) (by omega) (by omega)
        rw [Nat.zero_add] at this
        rw [← N9,this]; exact h5
      · have:(V9 cs (Jv t p) ds).drop (Zi t)=cs.drop (Zi t):=by
          rw [R5,Vm (by omega),Gf (by omega) (by omega),← R5]
        rw [this]
        exact Xx.skip r (j+1) (i:=j) (by omega) h.2 hv
  | t :: r,j,n+1,p,x,x',ov,ov',ov'',cs,ds,d,h,hk,hs,hd,hv=>by
    have hlen:=Xx.length (t :: r) h
    simp only [Ui] at hlen
    simp only [Xx] at h ⊢
    simp only [okF] at hk
    simp only [K7] at hs
    simp only [Uh]
    cases hy:Ghost.K7 r n p x.2 d with
    | none=>rw [hy] at hs; cases hs
    | some y =>
      rw [hy] at hs
      simp only [Option.some.injEq] at hs
      subst hs
      have h2:=Zl.length d.τ hd
      have h3:=Dq r n p _ _ d hk hy
      have h5:=Xx.setP r (j+1) n p h.2 hk hy hd (by rw [show j+1+n=j+(n+1) by omega]; exact hv)
      refine ⟨?_,?_⟩
      · rw [← N9,Gf (by omega) (by omega),N9]
        exact Zl.ov t (hv.other (by omega)) h.1
      · have:(V9 cs (Zi t+Uh r n p) ds).drop (Zi t)=V9 (cs.drop (Zi t)) (Uh r n p) ds:=by
          rw [R5,Vm (by omega),Wk (by omega) (by omega),← R5]
        rw [this]; exact h5
theorem Xx.skip {A:Nat→Prop} {ρ:Xo} {w:World}:(fs:List Ty)→(j:Nat)→{i:Nat}→{p:Xc}→{x:Ho fs}→{ov ov' ov'':Ov}→{cs:List Value}→i<j →
    Xx A ρ w fs j x ov cs→Wt (i :: p) ov ov' ov''→Xx A ρ w fs j x ov'' cs
  | [],_,_,_,_,_,_,_,_,_,h,_=>by simpa only [Xx] using h
  | t :: r,j,i,p,x,ov,ov',ov'',cs,hij,h,hv=>by
    simp only [Xx] at h ⊢
    exact ⟨Zl.ov t (hv.other (by omega)) h.1,Xx.skip r (j+1) (by omega) h.2 hv⟩
end
end Go.Proofs.YtmemggdjnfccfaaGreatDoor.Ghost
namespace Go.Proofs.YtmemggdjnfccfaaGreatDoor.Ghost
open Go
def Us:Ty→Bool
  | .st _=>true
  | .arr _ _=>true
  | _=>false
def mkV (τ:Ty) (cs:List Value):Value:=match Us τ with
  | true=>.agg cs.toArray
  | false=>cs.headD undef
theorem Vh {A:Nat→Prop} {ρ:Xo} {w:World} {τ:Ty} {x:den τ} {ov:Ov} {cs:List Value} (h:Zl A ρ w τ x ov cs):(mkV τ cs).cells.toList=cs:=by
  cases τ with
  | bool=>simp only [Zl] at h; subst h; rfl
  | int k=>simp only [Zl] at h; subst h; rfl
  | str=>simp only [Zl] at h; subst h; rfl
  | sl e=>simp only [Zl] at h; obtain ⟨_,_,_,rfl,_⟩:=h; rfl
  | arr n e=>rfl
  | st fs=>rfl
def Y8:List Value→List Value
  | []=>[]
  | v :: r=>v.cells.toList ++ Y8 r
def Tj:List SV→List Value→Prop
  | u :: r,v :: s=>v.cells.size=Jw u∧(∀ c∈v.cells.toList,c.oneCell'=true)∧Tj r s
  | _,_=>True
mutual
def Zk (A:Nat→Prop) (ρ:Xo) (w:World):SV→Value→Prop
  | .dat τ x ov,v=>∃ cs,Zl A ρ w τ x ov cs∧v=mkV τ cs
  | .ptr g p,v=>∃ s,ρ g=some s∧s.ok p∧v=(match s.mp with | true=>.map (some s.b) | false=>.pointer (some ⟨s.b,s.off p,none⟩))
  | .ref τ x,v=>∃ b o cs,v=.pointer (some ⟨b,o,none⟩)∧A b∧w.rangeAt b o cs∧Zl A ρ w τ x [] cs
  | .refv u,v=>∃ b o u',v=.pointer (some ⟨b,o,none⟩)∧A b∧w.rangeAt b o (Value.cells u').toList∧Zk A ρ w u u'
  | .selfc f us,v=>∃ b o,v=.pointer (some ⟨b,o,none⟩)∧A b∧∃ vs:List Value,w.rangeAt b o [.func (.func f) #[] (v :: vs).toArray]∧Zr A ρ w us vs
  | .glo k,v=>v=.pointer (some ⟨k,0,none⟩)
  | .elp g i p,v=>∃ s,ρ g=some s∧s.mp=false∧i<s.len∧s.ok p∧v=.pointer (some ⟨s.b,i * s.es+s.off p,none⟩)
  | .clo f caps,v=>∃ vs:List Value,v=.func (.func f) #[] vs.toArray∧Zr A ρ w caps vs
  | .tup us,v=>∃ vs:List Value,v=.tuple vs.toArray∧Zr A ρ w us vs
  | .slv us,v=>∃ a n c,v=.slice a n c∧n=us.length∧∃ vs,Zr A ρ w us vs∧Tj us vs∧(∃ z,∀ u,u∈us→Jw u=z)∧(0<n→∃ b o,a=some ⟨b,o,none⟩∧A b∧w.rangeAt b o (Y8 vs))
  | .fmap ks us,v=>∃ b es c,v=.map (some b)∧A b∧w.heap[b]?=some (.map es c)∧es.toList.map (·.key)=ks.map (Value.int .i64)∧Zr A ρ w us (es.toList.map (·.val))
  | .agv us,v=>∃ vs,v=.agg (Y8 vs).toArray∧Zr A ρ w us vs∧Tj us vs
  | .nilfn,v=>v=.nilFunc
  | .und,v=>v=undef
  | .junk,_=>True
def Zr (A:Nat→Prop) (ρ:Xo) (w:World):List SV→List Value→Prop
  | [],vs=>vs=[]
  | u :: r,vs=>∃ v vs',vs=v :: vs'∧Zk A ρ w u v∧Zr A ρ w r vs'
end
theorem Yn {w w':World} {b o:Nat} {cs:List Value} (h:w'.heap[b]?=w.heap[b]?) (hr:w.rangeAt b o cs):w'.rangeAt b o cs:=fun j v hv=>by
  have:=hr j v hv
  unfold World.cell? at this ⊢
  simp only [h]
  exact this
theorem Tb {w w':World} {b o n:Nat} (h:w'.heap[b]?=w.heap[b]?) (hr:w.there b o n):w'.there b o n:=fun j hj=>by
  have:=hr j hj
  unfold World.cell? World.frozen? at this ⊢
  simp only [h]
  exact this
mutual
theorem Zk.mono {A A':Nat→Prop} {ρ ρ':Xo} {w w':World} (hA:∀ b,A b→A' b) (hρ:∀ g s,ρ g=some s→ρ' g=some s)
    (hw:∀ b,A b→w'.heap[b]?=w.heap[b]?):(u:SV)→{v:Value}→Zk A ρ w u v→Zk A' ρ' w' u v
  | .dat τ x ov,_,h=>by
    simp only [Zk] at h ⊢
    obtain ⟨cs,h1,h2⟩:=h
    exact ⟨cs,Zl.mono hA hρ hw τ h1,h2⟩
  | .ptr g p,_,h=>by
    simp only [Zk] at h ⊢
    obtain ⟨s,h1,h2⟩:=h
    exact ⟨s,hρ _ _ h1,h2⟩
  | .ref τ x,_,h=>by
    simp only [Zk] at h ⊢
    obtain ⟨b,o,cs,h1,h2,h3,h4⟩:=h
    exact ⟨b,o,cs,h1,hA b h2,Yn (hw b h2) h3,Zl.mono hA hρ hw τ h4⟩
  | .refv u,_,h=>by
    simp only [Zk] at h ⊢
    obtain ⟨b,o,u',h1,h2,h3,h4⟩:=h
    exact ⟨b,o,u',h1,hA b h2,Yn (hw b h2) h3,Zk.mono hA hρ hw u h4⟩
  | .selfc f us,_,h=>by
    simp only [Zk] at h ⊢
    obtain ⟨b,o,h1,h2,vs,h3,h4⟩:=h
    exact ⟨b,o,h1,hA b h2,vs,Yn (hw b h2) h3,Zr.mono hA hρ hw us h4⟩
  | .elp g i p,_,h=>by
    simp only [Zk] at h ⊢
    obtain ⟨s,h1,h2⟩:=h
    exact ⟨s,hρ _ _ h1,h2⟩
  | .clo f caps,_,h=>by
    simp only [Zk] at h ⊢
    obtain ⟨vs,h1,h2⟩:=h
    exact ⟨vs,h1,Zr.mono hA hρ hw caps h2⟩
  | .tup us,_,h=>by
    simp only [Zk] at h ⊢
    obtain ⟨vs,h1,h2⟩:=h
    exact ⟨vs,h1,Zr.mono hA hρ hw us h2⟩
  | .slv us,_,h=>by
    simp only [Zk] at h ⊢
    obtain ⟨a,n,c,h1,h2,vs,h3,h5,h6,h4⟩:=h
    refine ⟨a,n,c,h1,h2,vs,Zr.mono hA hρ hw us h3,h5,h6,fun hn => ?_⟩
    obtain ⟨b,o,k1,k2,k3⟩:=h4 hn
    exact ⟨b,o,k1,hA b k2,Yn (hw b k2) k3⟩
  | .fmap ks us,_,h=>by
    simp only [Zk] at h ⊢
    obtain ⟨b,es,c,h1,h2,h3,h4,h5⟩:=h
    exact ⟨b,es,c,h1,hA b h2,by rw [hw b h2]; exact h3,h4,Zr.mono hA hρ hw us h5⟩
  | .agv us,_,h=>by
    simp only [Zk] at h ⊢
    obtain ⟨vs,h1,h2,h3⟩:=h
    exact ⟨vs,h1,Zr.mono hA hρ hw us h2,h3⟩
  | .nilfn,_,h=>by simpa only [Zk] using h
  | .glo _,_,h=>by simpa only [Zk] using h
  | .und,_,h=>by simpa only [Zk] using h
  | .junk,_,_=>by simp only [Zk]
theorem Zr.mono {A A':Nat→Prop} {ρ ρ':Xo} {w w':World} (hA:∀ b,A b→A' b) (hρ:∀ g s,ρ g=some s→ρ' g=some s)
    (hw:∀ b,A b→w'.heap[b]?=w.heap[b]?):(us:List SV)→{vs:List Value}→Zr A ρ w us vs→Zr A' ρ' w' us vs
  | [],_,h=>by simpa only [Zr] using h
  | u :: r,_,h=>by
    simp only [Zr] at h ⊢
    obtain ⟨v,vs',h1,h2,h3⟩:=h
    exact ⟨v,vs',h1,Zk.mono hA hρ hw u h2,Zr.mono hA hρ hw r h3⟩
end
mutual
theorem Ph (f:Nat→Nat):(u:SV)→Jw (Vo f u)=Jw u
  | .dat _ _ _=>rfl
  | .ptr _ _=>rfl
  | .ref _ _=>rfl
  | .refv _=>rfl
  | .selfc _ _=>rfl
  | .glo _=>rfl
  | .elp _ _ _=>rfl
  | .clo _ _=>rfl
  | .tup _=>rfl
  | .slv _=>rfl
  | .fmap _ _=>rfl
  | .agv us=>by simp only [Vo,Jw]; exact F9 f us
  | .nilfn=>rfl
  | .und=>rfl
  | .junk=>rfl
theorem F9 (f:Nat→Nat):(us:List SV)→Hu (Kj f us)=Hu us
  | []=>rfl
  | u :: r=>by simp only [Kj,Hu,Ph f u,F9 f r]
end
theorem Dt (f:Nat→Nat):(us:List SV)→(vs:List Value)→Tj us vs→Tj (Kj f us) vs
  | [],_,_=>by simp [Kj,Tj]
  | _ :: _,[],_=>by simp [Kj,Tj]
  | u :: r,v :: s,h=>by
    simp only [Tj,Kj] at h ⊢
    exact ⟨by rw [Ph]; exact h.1,h.2.1,Dt f r s h.2.2⟩
theorem ACh {f:Nat→Nat} {u:SV}:{us:List SV}→u∈Kj f us→∃ u',u'∈us∧u=Vo f u'
  | v :: r,h=>by
    simp only [Kj,List.mem_cons] at h
    rcases h with rfl | h
    · exact ⟨v,by simp,rfl⟩
    · obtain ⟨u',h1,h2⟩:=ACh h
      exact ⟨u',by simp [h1],h2⟩
theorem Da {f:Nat→Nat} {q:Xc} {g:Nat}:{ov:Ov}→((q,some g)∈K1 f ov↔∃ g',(q,some g')∈ov∧g=f g')
  | []=>by simp [K1]
  | (q',some g') :: r=>by
    simp only [K1,List.mem_cons,Da (ov:=r),Prod.mk.injEq,Option.some.injEq]
    constructor
    · rintro (⟨rfl,rfl⟩ | ⟨g'',h1,h2⟩)
      · exact ⟨g',.inl ⟨rfl,rfl⟩,rfl⟩
      · exact ⟨g'',.inr h1,h2⟩
    · rintro ⟨g'',⟨rfl,rfl⟩ | h1,h2⟩
      · exact .inl ⟨rfl,h2⟩
      · exact .inr ⟨g'',h1,h2⟩
  | (q',none) :: r=>by simp [K1,Da (ov:=r)]
theorem Pu {f:Nat→Nat} {q:Xc}:{ov:Ov}→((∃ o,(q,o)∈K1 f ov)↔∃ o,(q,o)∈ov)
  | []=>by simp [K1]
  | (q',some g') :: r=>by
    have:=Pu (f:=f) (q:=q) (ov:=r)
    simp only [K1,List.mem_cons,Prod.mk.injEq,exists_or,this]
    constructor
    · rintro (⟨o,rfl,_⟩ | h)
      · exact .inl ⟨some g',rfl,rfl⟩
      · exact .inr h
    · rintro (⟨o,rfl,_⟩ | h)
      · exact .inl ⟨some (f g'),rfl,rfl⟩
      · exact .inr h
  | (q',none) :: r=>by
    have:=Pu (f:=f) (q:=q) (ov:=r)
    simp only [K1,List.mem_cons,Prod.mk.injEq,exists_or,this]
theorem Pd (f:Nat→Nat) (p:Xc):(ov:Ov)→Vb p (K1 f ov)=K1 f (Vb p ov)
  | []=>rfl
  | (q,some g) :: r=>by
    simp only [K1,Vb]
    cases Gm p q <;> simp [K1,Pd f p r]
  | (q,none) :: r=>by
    simp only [K1,Vb]
    cases Gm p q <;> simp [K1,Pd f p r]
theorem Dj {p:Nat→Bool} {q:Xc} {g:Nat}:{ov:Ov}→Uo p ov=true→(q,some g)∈ov→p g=true
  | (q',some g') :: r,h,hm=>by
    simp only [Uo,Bool.and_eq_true] at h
    simp only [List.mem_cons,Prod.mk.injEq,Option.some.injEq] at hm
    rcases hm with ⟨rfl,rfl⟩ | hm
    · exact h.1
    · exact Dj h.2 hm
  | (q',none) :: r,h,hm=>by
    simp only [Uo] at h
    simp only [List.mem_cons,Prod.mk.injEq,reduceCtorEq,and_false,false_or] at hm
    exact Dj h hm
theorem T4 {p:Nat→Bool} {q:Xc}:{ov:Ov}→Uo p ov=true→Uo p (Vb q ov)=true
  | [],_=>rfl
  | (q',some g') :: r,h=>by
    simp only [Uo,Bool.and_eq_true] at h
    simp only [Vb]
    cases Gm q q'
    · exact T4 h.2
    · simp only [Uo,Bool.and_eq_true]; exact ⟨h.1,T4 h.2⟩
  | (q',none) :: r,h=>by
    simp only [Uo] at h
    simp only [Vb]
    cases Gm q q'
    · exact T4 h
    · simp only [Uo]; exact T4 h
section names
variable {A:Nat→Prop} {ρ ρ':Xo} {w:World} {p:Nat→Bool} {f:Nat→Nat} 
mutual
theorem Zl.names (hf:∀ g s,p g=true→ρ g=some s→ρ' (f g)=some s):(τ:Ty)→{x:den τ}→{ov:Ov}→{cs:List Value}→Uo p ov=true→Zl A ρ w τ x ov cs→Zl A ρ' w τ x (K1 f ov) cs
  | .bool,_,_,_,_,h=>by simpa only [Zl] using h
  | .int _,_,_,_,_,h=>by simpa only [Zl] using h
  | .str,_,_,_,_,h=>by simpa only [Zl] using h
  | .sl e,_,ov,_,hp,h=>by
    simp only [Zl] at h ⊢
    obtain ⟨a,n,c,h1,h2,h3⟩:=h
    refine ⟨a,n,c,h1,fun g hg => ?_,fun hn => ?_⟩
    · obtain ⟨g',k1,rfl⟩:=Da.1 hg
      obtain ⟨s,ad,m1,m2⟩:=h2 g' k1
      exact ⟨s,ad,hf _ _ (Dj hp k1) m1,m2⟩
    · have hn':∀ o,([],o) ∉ ov:=fun o ho=>by
        obtain ⟨o',ho'⟩:=Pu (f:=f).2 ⟨o,ho⟩
        exact hn o' ho'
      refine ⟨(h3 hn').1,fun hpos => ?_⟩
      obtain ⟨b,o,ds,k1,k2,k3,k4,k5⟩:=(h3 hn').2 hpos
      exact ⟨b,o,ds,k1,k2,k3,k4,fun i hi=>by simpa only [K1] using Zl.names hf e (ov:=[]) rfl (k5 i hi)⟩
  | .arr n e,_,ov,_,hp,h=>by
    simp only [Zl] at h ⊢
    exact ⟨h.1,h.2.1,fun i hi=>by rw [Pd]; exact Zl.names hf e (T4 hp) (h.2.2 i hi)⟩
  | .st fs,_,_,_,hp,h=>by simp only [Zl] at h ⊢; exact Xx.names hf fs hp h
theorem Xx.names (hf:∀ g s,p g=true→ρ g=some s→ρ' (f g)=some s):(fs:List Ty)→{j:Nat}→{x:Ho fs}→{ov:Ov}→{cs:List Value}→Uo p ov=true→Xx A ρ w fs j x ov cs→Xx A ρ' w fs j x (K1 f ov) cs
  | [],_,_,_,_,_,h=>by simpa only [Xx] using h
  | t :: r,_,_,_,_,hp,h=>by
    simp only [Xx] at h ⊢
    exact ⟨by rw [Pd]; exact Zl.names hf t (T4 hp) h.1,Xx.names hf r hp h.2⟩
end
mutual
theorem Zk.names (hf:∀ g s,p g=true→ρ g=some s→ρ' (f g)=some s):(u:SV)→{v:Value}→U6 p u=true→Zk A ρ w u v→Zk A ρ' w (Vo f u) v
  | .dat τ x ov,_,hp,h=>by
    simp only [Zk,Vo,U6] at h hp ⊢
    obtain ⟨cs,h1,h2⟩:=h
    exact ⟨cs,Zl.names hf τ hp h1,h2⟩
  | .ptr g q,_,hp,h=>by
    simp only [Zk,Vo,U6] at h hp ⊢
    obtain ⟨s,h1,h2⟩:=h
    exact ⟨s,hf _ _ hp h1,h2⟩
  | .ref τ x,_,hp,h=>by
    simp only [Zk,Vo,U6] at h hp ⊢
    obtain ⟨b,o,cs,h1,h2,h3,h4⟩:=h
    exact ⟨b,o,cs,h1,h2,h3,by simpa only [K1] using Zl.names hf τ (ov:=[]) rfl h4⟩
  | .refv u,_,hp,h=>by
    simp only [Zk,Vo,U6] at h hp ⊢
    obtain ⟨b,o,u',h1,h2,h3,h4⟩:=h
    exact ⟨b,o,u',h1,h2,h3,Zk.names hf u hp h4⟩
  | .selfc c us,_,hp,h=>by
    simp only [Zk,Vo,U6] at h hp ⊢
    obtain ⟨b,o,h1,h2,vs,h3,h4⟩:=h
    exact ⟨b,o,h1,h2,vs,h3,Zr.names hf us hp h4⟩
  | .elp g i q,_,hp,h=>by
    simp only [Zk,Vo,U6] at h hp ⊢
    obtain ⟨s,h1,h2⟩:=h
    exact ⟨s,hf _ _ hp h1,h2⟩
  | .clo c caps,_,hp,h=>by
    simp only [Zk,Vo,U6] at h hp ⊢
    obtain ⟨vs,h1,h2⟩:=h
    exact ⟨vs,h1,Zr.names hf caps hp h2⟩
  | .tup us,_,hp,h=>by
    simp only [Zk,Vo,U6] at h hp ⊢
    obtain ⟨vs,h1,h2⟩:=h
    exact ⟨vs,h1,Zr.names hf us hp h2⟩
  | .slv us,_,hp,h=>by
    simp only [Zk,Vo,U6] at h hp ⊢
    obtain ⟨a,n,c,h1,h2,vs,h3,h5,⟨z,h6⟩,h4⟩:=h
    have:∀ l:List SV,(Kj f l).length=l.length:=fun l=>by induction l <;> simp_all [Kj]
    refine ⟨a,n,c,h1,by rw [this]; exact h2,vs,Zr.names hf us hp h3,Dt f us vs h5,⟨z,fun u hu => ?_⟩,h4⟩
    obtain ⟨u',k1,rfl⟩:=ACh hu
    rw [Ph]; exact h6 u' k1
  | .fmap ks us,_,hp,h=>by
    simp only [Zk,Vo,U6] at h hp ⊢
    obtain ⟨b,es,c,h1,h2,h3,h4,h5⟩:=h
    exact ⟨b,es,c,h1,h2,h3,h4,Zr.names hf us hp h5⟩
  | .agv us,_,hp,h=>by
    simp only [Zk,Vo,U6] at h hp ⊢
    obtain ⟨vs,h1,h2,h3⟩:=h
    exact ⟨vs,h1,Zr.names hf us hp h2,Dt f us vs h3⟩
  | .nilfn,_,_,h=>by simpa only [Zk,Vo] using h
  | .glo _,_,_,h=>by simpa only [Zk,Vo] using h
  | .und,_,_,h=>by simpa only [Zk,Vo] using h
  | .junk,_,_,_=>by simp only [Zk,Vo]
theorem Zr.names (hf:∀ g s,p g=true→ρ g=some s→ρ' (f g)=some s):(us:List SV)→{vs:List Value}→Nz p us=true→Zr A ρ w us vs→Zr A ρ' w (Kj f us) vs
  | [],_,_,h=>by simpa only [Zr,Kj] using h
  | u :: r,_,hp,h=>by
    simp only [Zr,Kj,Nz,Bool.and_eq_true] at h hp ⊢
    obtain ⟨v,vs',h1,h2,h3⟩:=h
    exact ⟨v,vs',h1,Zk.names hf u hp.1 h2,Zr.names hf r hp.2 h3⟩
end
end names
theorem F0:(ov:Ov)→K1 id ov=ov
  | []=>rfl
  | (_,some _) :: r=>by simp [K1,F0 r]
  | (_,none) :: r=>by simp [K1,F0 r]
mutual
theorem Fz:(u:SV)→Vo id u=u
  | .dat _ _ ov=>by simp [Vo,F0 ov]
  | .ptr _ _=>rfl
  | .ref _ _=>rfl
  | .refv u=>by simp [Vo,Fz u]
  | .selfc _ us=>by simp [Vo,Rl us]
  | .glo _=>rfl
  | .elp _ _ _=>rfl
  | .clo _ us=>by simp [Vo,Rl us]
  | .tup us=>by simp [Vo,Rl us]
  | .slv us=>by simp [Vo,Rl us]
  | .fmap _ us=>by simp [Vo,Rl us]
  | .agv us=>by simp [Vo,Rl us]
  | .nilfn=>rfl
  | .und=>rfl
  | .junk=>rfl
theorem Rl:(us:List SV)→Kj id us=us
  | []=>rfl
  | u :: r=>by simp [Kj,Fz u,Rl r]
end
end Go.Proofs.YtmemggdjnfccfaaGreatDoor.Ghost
namespace Go.Proofs.YtmemggdjnfccfaaGreatDoor.Ghost
open Go
mutual
def Th:SV→Xc→Nat
  | .agv vs,i :: p=>Un vs i p
  | _,_=>0
def Un:List SV→Nat→Xc→Nat
  | [],_,_=>0
  | v :: _,0,p=>Th v p
  | v :: r,n+1,p=>Jw v+Un r n p
end
theorem Wn:(us:List SV)→(vs:List Value)→{A:Nat→Prop}→{ρ:Xo}→{w:World}→Zr A ρ w us vs→Tj us vs→(Y8 vs).length=Hu us
  | [],_,_,_,_,h,_=>by simp only [Zr] at h; subst h; rfl
  | u :: r,_,_,_,_,h,hs=>by
    simp only [Zr] at h
    obtain ⟨v,vs',rfl,_,h3⟩:=h
    simp only [Tj] at hs
    simp only [Y8,List.length_append,Hu,Array.length_toList,hs.1,Wn r vs' h3 hs.2.2]
theorem Zk.size {A:Nat→Prop} {ρ:Xo} {w:World}:{u:SV}→{v:Value}→u≠.junk→Zk A ρ w u v→v.cells.size=Jw u
  | .dat τ x ov,v,_,h=>by
    simp only [Zk] at h
    obtain ⟨cs,h1,rfl⟩:=h
    rw [← Array.length_toList,Vh h1,Zl.length τ h1]; rfl
  | .ptr g p,v,_,h=>by
    simp only [Zk] at h
    obtain ⟨s,_,_,rfl⟩:=h
    cases s.mp <;> rfl
  | .ref τ x,v,_,h=>by
    simp only [Zk] at h
    obtain ⟨_,_,_,rfl,_⟩:=h; rfl
  | .refv u,v,_,h=>by
    simp only [Zk] at h
    obtain ⟨_,_,_,rfl,_⟩:=h; rfl
  | .selfc f us,v,_,h=>by
    simp only [Zk] at h
    obtain ⟨_,_,rfl,_⟩:=h; rfl
  | .glo k,v,_,h=>by
    simp only [Zk] at h
    subst h; rfl
  | .elp g i p,v,_,h=>by
    simp only [Zk] at h
    obtain ⟨_,_,_,_,_,rfl⟩:=h; rfl
  | .clo f caps,v,_,h=>by
    simp only [Zk] at h
    obtain ⟨_,rfl,_⟩:=h; rfl
  | .tup us,v,_,h=>by
    simp only [Zk] at h
    obtain ⟨_,rfl,_⟩:=h; rfl
  | .slv us,v,_,h=>by
    simp only [Zk] at h
    obtain ⟨_,_,_,rfl,_⟩:=h; rfl
  | .fmap ks us,v,_,h=>by
    simp only [Zk] at h
    obtain ⟨_,_,_,rfl,_⟩:=h; rfl
  | .agv us,v,_,h=>by
    simp only [Zk] at h
    obtain ⟨vs,rfl,h2,h3⟩:=h
    show (Y8 vs).toArray.size=_
    rw [List.size_toArray,Wn us vs h2 h3]; rfl
  | .nilfn,v,_,h=>by simp only [Zk] at h; subst h; rfl
  | .und,v,_,h=>by simp only [Zk] at h; subst h; rfl
  | .junk,_,h,_=>absurd rfl h
mutual
theorem Zl.one {A:Nat→Prop} {ρ:Xo} {w:World}:(τ:Ty)→{x:den τ}→{ov:Ov}→{cs:List Value}→Zl A ρ w τ x ov cs→∀ c∈cs,c.oneCell'=true
  | .bool,_,_,_,h=>by simp only [Zl] at h; subst h; simp [Value.oneCell']
  | .int _,_,_,_,h=>by simp only [Zl] at h; subst h; simp [Value.oneCell']
  | .str,_,_,_,h=>by simp only [Zl] at h; subst h; simp [Value.oneCell']
  | .sl _,_,_,_,h=>by simp only [Zl] at h; obtain ⟨_,_,_,rfl,_⟩:=h; simp [Value.oneCell']
  | .arr n e,_,_,cs,h=>by
    simp only [Zl] at h
    intro c hc
    obtain ⟨k,hk,rfl⟩:=List.getElem_of_mem hc
    have hk':k<n * Zi e:=by rw [← h.2.1]; exact hk
    have hpos:0<Zi e:=by
      rcases Nat.eq_zero_or_pos (Zi e) with h0 | h0
      · rw [h0] at hk'; simp at hk'
      · exact h0
    have hi:k / Zi e<n:=Nat.div_lt_of_lt_mul (by rw [Nat.mul_comm]; exact hk')
    refine Zl.one e (h.2.2 _ hi) _ ?_
    have hm:=Nat.div_add_mod k (Zi e)
    have hlt:=Nat.mod_lt k hpos
    rw [List.mem_iff_getElem?]
    refine ⟨k % Zi e,?_⟩
    rw [List.getElem?_take_of_lt hlt,List.getElem?_drop,Nat.mul_comm,hm,List.getElem?_eq_getElem hk]
  | .st fs,_,_,_,h=>by simp only [Zl] at h; exact Xx.one fs h
theorem Xx.one {A:Nat→Prop} {ρ:Xo} {w:World}:(fs:List Ty)→{j:Nat}→{x:Ho fs}→{ov:Ov}→{cs:List Value}→Xx A ρ w fs j x ov cs→∀ c∈cs,c.oneCell'=true
  | [],_,_,_,_,h=>by simp only [Xx] at h; subst h; simp
  | t :: r,_,_,_,cs,h=>by
    simp only [Xx] at h
    intro c hc
    rw [← List.take_append_drop (Zi t) cs,List.mem_append] at hc
    rcases hc with hc | hc
    · exact Zl.one t h.1 c hc
    · exact Xx.one r h.2 c hc
end
theorem AAh:(us:List SV)→(vs:List Value)→us.length=vs.length→Tj us vs→∀ c∈Y8 vs,c.oneCell'=true
  | [],[],_,_=>by simp [Y8]
  | u :: r,v :: s,hl,h=>by
    simp only [Tj] at h
    intro c hc
    simp only [Y8,List.mem_append] at hc
    rcases hc with hc | hc
    · exact h.2.1 c hc
    · exact AAh r s (by simpa using hl) h.2.2 c hc
theorem Zr.len {A:Nat→Prop} {ρ:Xo} {w:World}:(us:List SV)→{vs:List Value}→Zr A ρ w us vs→us.length=vs.length
  | [],_,h=>by simp only [Zr] at h; subst h; rfl
  | u :: r,_,h=>by
    simp only [Zr] at h
    obtain ⟨v,vs',rfl,_,h3⟩:=h
    simp [Zr.len r h3]
theorem Zk.one {A:Nat→Prop} {ρ:Xo} {w:World} {u:SV} {v:Value} {n:Nat} (hs:G4 n u=true) (h:Zk A ρ w u v):∀ c∈v.cells.toList,c.oneCell'=true:=by
  cases u with
  | dat τ x ov =>
    simp only [Zk] at h
    obtain ⟨cs,h1,rfl⟩:=h
    rw [Vh h1]
    exact Zl.one τ h1
  | ptr g p =>
    simp only [Zk] at h
    obtain ⟨s,_,_,rfl⟩:=h
    cases s.mp <;> simp [Value.cells,Value.oneCell']
  | ref τ x =>
    simp only [Zk] at h
    obtain ⟨_,_,_,rfl,_⟩:=h; simp [Value.cells,Value.oneCell']
  | refv u =>
    simp only [Zk] at h
    obtain ⟨_,_,_,rfl,_⟩:=h; simp [Value.cells,Value.oneCell']
  | selfc f us =>
    simp only [Zk] at h
    obtain ⟨_,_,rfl,_⟩:=h; simp [Value.cells,Value.oneCell']
  | glo k =>
    simp only [Zk] at h
    subst h; simp [Value.cells,Value.oneCell']
  | elp g i p =>
    simp only [Zk] at h
    obtain ⟨_,_,_,_,_,rfl⟩:=h; simp [Value.cells,Value.oneCell']
  | clo f caps =>
    simp only [Zk] at h
    obtain ⟨_,rfl,_⟩:=h; simp [Value.cells,Value.oneCell']
  | slv us =>
    simp only [Zk] at h
    obtain ⟨_,_,_,rfl,_⟩:=h; simp [Value.cells,Value.oneCell']
  | fmap ks us =>
    simp only [Zk] at h
    obtain ⟨_,_,_,rfl,_⟩:=h; simp [Value.cells,Value.oneCell']
  | agv us =>
    simp only [Zk] at h
    obtain ⟨vs,rfl,h2,h3⟩:=h
    exact AAh us vs (Zr.len us h2) h3
  | nilfn=>simp only [Zk] at h; subst h; simp [Value.cells,Value.oneCell']
  | und=>simp [G4] at hs
  | tup us=>simp [G4] at hs
  | junk=>simp [G4] at hs
mutual
theorem Zk.getV {A:Nat→Prop} {ρ:Xo} {w:World}:(u:SV)→{p:Xc}→{v:Value}→{x:SV}→Zk A ρ w u v→Ghost.getV u p=some x →
    ∃ v',Zk A ρ w x v'∧v'.cells.toList=cut v.cells.toList (Th u p) v'.cells.size
  | u,[],v,x,h,hg=>by
    have:u=x:=by cases u <;> simpa [Ghost.getV] using hg
    subst this
    refine ⟨v,h,?_⟩
    have:Th u []=0:=by cases u <;> rfl
    rw [this,AI3]; simp
  | .agv us,i :: p,v,x,h,hg=>by
    simp only [Zk] at h
    obtain ⟨vs,rfl,h2,h3⟩:=h
    simp only [Ghost.getV] at hg
    obtain ⟨v',k1,k2⟩:=Zr.getV us h2 h3 hg
    exact ⟨v',k1,by simpa only [Th,Value.cells] using k2⟩
  | .dat _ _ _,_ :: _,_,_,_,hg=>by simp [Ghost.getV] at hg
  | .ptr _ _,_ :: _,_,_,_,hg=>by simp [Ghost.getV] at hg
  | .ref _ _,_ :: _,_,_,_,hg=>by simp [Ghost.getV] at hg
  | .refv _,_ :: _,_,_,_,hg=>by simp [Ghost.getV] at hg
  | .selfc _ _,_ :: _,_,_,_,hg=>by simp [Ghost.getV] at hg
  | .glo _,_ :: _,_,_,_,hg=>by simp [Ghost.getV] at hg
  | .elp _ _ _,_ :: _,_,_,_,hg=>by simp [Ghost.getV] at hg
  | .clo _ _,_ :: _,_,_,_,hg=>by simp [Ghost.getV] at hg
  | .tup _,_ :: _,_,_,_,hg=>by simp [Ghost.getV] at hg
  | .slv _,_ :: _,_,_,_,hg=>by simp [Ghost.getV] at hg
  | .fmap _ _,_ :: _,_,_,_,hg=>by simp [Ghost.getV] at hg
  | .nilfn,_ :: _,_,_,_,hg=>by simp [Ghost.getV] at hg
  | .und,_ :: _,_,_,_,hg=>by simp [Ghost.getV] at hg
  | .junk,_ :: _,_,_,_,hg=>by simp [Ghost.getV] at hg
theorem Zr.getV {A:Nat→Prop} {ρ:Xo} {w:World}:(us:List SV)→{i:Nat}→{p:Xc}→{vs:List Value}→{x:SV}→Zr A ρ w us vs→Tj us vs→getV.getVL us i p=some x →
    ∃ v',Zk A ρ w x v'∧v'.cells.toList=cut (Y8 vs) (Un us i p) v'.cells.size
  | [],_,_,_,_,_,_,hg=>by simp [getV.getVL] at hg
  | u :: r,0,p,vs,x,h,hs,hg=>by
    simp only [Zr] at h
    obtain ⟨v,vs',rfl,h2,h3⟩:=h
    simp only [getV.getVL] at hg
    obtain ⟨v',k1,k2⟩:=Zk.getV u h2 hg
    refine ⟨v',k1,?_⟩
    rw [k2]
    simp only [Un,Y8]
    refine List.ext_getElem? fun k => ?_
    have hl:v'.cells.size≤v.cells.size - Th u p∨True:=.inr trivial
    have k3:(cut v.cells.toList (Th u p) v'.cells.size).length=v'.cells.size:=by rw [← k2]; simp
    have k4:v'.cells.size=min v'.cells.size (v.cells.size - Th u p):=by
      unfold cut at k3
      simp only [List.length_take,List.length_drop,Array.length_toList] at k3
      omega
    rw [Qi,Qi]
    by_cases hk:k<v'.cells.size
    · simp only [hk,if_true]
      rw [List.getElem?_append_left (by simp only [Array.length_toList]; omega)]
    · simp only [hk,if_false]
  | u :: r,n+1,p,vs,x,h,hs,hg=>by
    simp only [Zr] at h
    obtain ⟨v,vs',rfl,h2,h3⟩:=h
    simp only [Tj] at hs
    simp only [getV.getVL] at hg
    obtain ⟨v',k1,k2⟩:=Zr.getV r h3 hs.2.2 hg
    refine ⟨v',k1,?_⟩
    rw [k2]
    simp only [Un,Y8]
    unfold cut
    have hz:List.drop v.cells.size v.cells.toList=[]:=List.drop_eq_nil_of_le (by simp)
    rw [← hs.1,← List.drop_drop,List.drop_append_of_le_length (by simp),hz,List.nil_append]
end
def Xw (A:Nat→Prop) (ρ:Xo) (w:World) (κ ν:Ty):List (den κ×den ν)→List MapEntry→Prop
  | [],es=>es=[]
  | (k,v) :: r,es=>∃ e es',es=e :: es'∧(∃ cs,Zl A ρ w κ k [] cs∧e.key=mkV κ cs)∧(∃ cs,Zl A ρ w ν v [] cs∧e.val=mkV ν cs)∧Xw A ρ w κ ν r es'
def AC2 (es:List MapEntry) (c:Nat):Prop:=c=es.length∧∀ (j:Nat) e,es[j]?=some e→e.born=j
def Own (own:Nat→Option Nat) (w:World) (g:Nat) (s:Hl) (cs:List Value):Prop :=
  own s.b=some g∧w.rangeAt s.b 0 cs∧w.there s.b 0 cs.length
def AEn (A:Nat→Prop) (w:World) (s:Hl) (cs:List Value):Prop:=A s.b∧w.rangeAt s.b 0 cs
def T7 (A:Nat→Prop) (ρ:Xo) (w:World) (g:Nat) (τ:Ty) (x:den τ) (ov:Ov) (M:Hl→List Value→Prop):Prop :=
  ∃ s cs,ρ g=some s∧s.mp=false∧s.off=Jv τ∧s.ok=okP τ∧M s cs∧Zl A ρ w τ x ov cs
def okV (u:SV) (p:Xc):Prop:=∃ x,getV u p=some x
def Wg (A:Nat→Prop) (ρ:Xo) (w:World) (g:Nat) (u:SV) (M:Hl→List Value→Prop):Prop :=
  ∃ s v,ρ g=some s∧s.mp=false∧s.off=Th u∧s.ok=okV u∧u≠.junk∧M s (Value.cells v).toList∧Zk A ρ w u v
def V5 (A:Nat→Prop) (ρ:Xo) (w:World) (g:Nat) (e:Ty) (l:List (den e)) (M:Hl→List Value→Prop):Prop :=
  ∃ s,ρ g=some s∧s.mp=false∧s.es=Zi e∧0<Zi e∧s.off=Jv e∧s.ok=okP e∧List.length l=s.len∧s.len≤s.cap ∧
    (0<s.cap→∃ cs,cs.length=s.cap * s.es∧M s cs∧∀ i,i<s.len→Zl A ρ w e (List.getD l i (dft e)) [] (cut cs (i * s.es) s.es))
def Va (A:Nat→Prop) (ρ:Xo) (own:Nat→Option Nat) (w:World) (g:Nat):Obj→Prop
  | .box τ x ov=>T7 A ρ w g τ x ov (Own own w g)
  | .boxv u=>Wg A ρ w g u (Own own w g)
  | .fbox τ x ov=>T7 A ρ w g τ x ov (AEn A w)
  | .fboxv u=>Wg A ρ w g u (AEn A w)
  | .arr e l=>V5 A ρ w g e l (Own own w g)
  | .frz e l=>V5 A ρ w g e l (AEn A w)
  | .map κ ν l=>∃ s es c,ρ g=some s∧s.mp=true∧own s.b=some g∧(∀ p,s.ok p↔p=[])∧w.heap[s.b]?=some (.map es c)∧Xw A ρ w κ ν l es.toList∧AC2 es.toList c
  | .hid=>True
  | .dead=>True
  | .none=>ρ g=none
theorem Xw.mono {A A':Nat→Prop} {ρ ρ':Xo} {w w':World} (hA:∀ b,A b→A' b) (hρ:∀ g s,ρ g=some s→ρ' g=some s)
    (hw:∀ b,A b→w'.heap[b]?=w.heap[b]?) {κ ν:Ty}:{l:List (den κ×den ν)}→{es:List MapEntry}→Xw A ρ w κ ν l es→Xw A' ρ' w' κ ν l es
  | [],_,h=>by simpa only [Xw] using h
  | (k,v) :: r,_,h=>by
    simp only [Xw] at h ⊢
    obtain ⟨e,es',h1,⟨c1,h2,h3⟩,⟨c2,h4,h5⟩,h6⟩:=h
    exact ⟨e,es',h1,⟨c1,Zl.mono hA hρ hw κ h2,h3⟩,⟨c2,Zl.mono hA hρ hw ν h4,h5⟩,Xw.mono hA hρ hw h6⟩
theorem Va.mono {A A':Nat→Prop} {ρ ρ':Xo} {own own':Nat→Option Nat} {w w':World} {g:Nat} (hA:∀ b,A b→A' b) (hρ:∀ g s,ρ g=some s→ρ' g=some s)
    (hw:∀ b,A b∨own b=some g→w'.heap[b]?=w.heap[b]?) (ho:∀ b,own b=some g→own' b=some g) (hn:ρ g=none→ρ' g=none):{o:Obj}→Va A ρ own w g o→Va A' ρ' own' w' g o
  | .box τ x ov,h=>by
    simp only [Va,T7] at h ⊢
    obtain ⟨s,cs,h1,h2,h3,h4,⟨m1,m2,m3⟩,h5⟩:=h
    exact ⟨s,cs,hρ _ _ h1,h2,h3,h4,⟨ho _ m1,Yn (hw _ (.inr m1)) m2,Tb (hw _ (.inr m1)) m3⟩,Zl.mono hA hρ (fun b hb=>hw b (.inl hb)) τ h5⟩
  | .boxv u,h=>by
    simp only [Va,Wg] at h ⊢
    obtain ⟨s,cs,h1,h2,h3,h4,h6,⟨m1,m2,m3⟩,h5⟩:=h
    exact ⟨s,cs,hρ _ _ h1,h2,h3,h4,h6,⟨ho _ m1,Yn (hw _ (.inr m1)) m2,Tb (hw _ (.inr m1)) m3⟩,Zk.mono hA hρ (fun b hb=>hw b (.inl hb)) u h5⟩
  | .fbox τ x ov,h=>by
    simp only [Va,T7] at h ⊢
    obtain ⟨s,cs,h1,h2,h3,h4,⟨m1,m2⟩,h5⟩:=h
    exact ⟨s,cs,hρ _ _ h1,h2,h3,h4,⟨hA _ m1,Yn (hw _ (.inl m1)) m2⟩,Zl.mono hA hρ (fun b hb=>hw b (.inl hb)) τ h5⟩
  | .fboxv u,h=>by
    simp only [Va,Wg] at h ⊢
    obtain ⟨s,cs,h1,h2,h3,h4,h6,⟨m1,m2⟩,h5⟩:=h
    exact ⟨s,cs,hρ _ _ h1,h2,h3,h4,h6,⟨hA _ m1,Yn (hw _ (.inl m1)) m2⟩,Zk.mono hA hρ (fun b hb=>hw b (.inl hb)) u h5⟩
  | .arr e l,h=>by
    simp only [Va,V5] at h ⊢
    obtain ⟨s,h1,h2,h3,h4,h5,h6,h7,h8,h9⟩:=h
    refine ⟨s,hρ _ _ h1,h2,h3,h4,h5,h6,h7,h8,fun hc => ?_⟩
    obtain ⟨cs,k1,⟨m1,m2,m3⟩,k2⟩:=h9 hc
    exact ⟨cs,k1,⟨ho _ m1,Yn (hw _ (.inr m1)) m2,Tb (hw _ (.inr m1)) m3⟩,fun i hi=>Zl.mono hA hρ (fun b hb=>hw b (.inl hb)) e (k2 i hi)⟩
  | .frz e l,h=>by
    simp only [Va,V5] at h ⊢
    obtain ⟨s,h1,h2,h3,h4,h5,h6,h7,h8,h9⟩:=h
    refine ⟨s,hρ _ _ h1,h2,h3,h4,h5,h6,h7,h8,fun hc => ?_⟩
    obtain ⟨cs,k1,⟨m1,m2⟩,k2⟩:=h9 hc
    exact ⟨cs,k1,⟨hA _ m1,Yn (hw _ (.inl m1)) m2⟩,fun i hi=>Zl.mono hA hρ (fun b hb=>hw b (.inl hb)) e (k2 i hi)⟩
  | .map κ ν l,h=>by
    simp only [Va] at h ⊢
    obtain ⟨s,es,c,h1,h2,h3,h4,h5,h6,h7⟩:=h
    exact ⟨s,es,c,hρ _ _ h1,h2,ho _ h3,h4,by rw [hw _ (.inr h3)]; exact h5,Xw.mono hA hρ (fun b hb=>hw b (.inl hb)) h6,h7⟩
  | .hid,_=>trivial
  | .dead,_=>trivial
  | .none,h=>hn h
def Vn (A:Nat→Prop) (w:World):Prop:=∀ k d,P8 k=some d→A k∧∃ cs,Zl A (fun _=>none) w d.τ d.x [] cs∧w.rangeAt k 0 cs
theorem Vn.mono {A A':Nat→Prop} {w w':World} (hA:∀ b,A b→A' b) (hw:∀ b,A b→w'.heap[b]?=w.heap[b]?) (h:Vn A w):Vn A' w':=fun k d hd=>by
  obtain ⟨h1,cs,h2,h3⟩:=h k d hd
  exact ⟨hA k h1,cs,Zl.mono hA (fun _ _ h=>h) hw d.τ h2,Yn (hw k h1) h3⟩
structure Qq where
  w:World
  A:Nat→Prop
structure St (B:Nat) (w0:Qq) (A:Nat→Prop) (ρ:Xo) (own:Nat→Option Nat) (w:World) (h:Nat→Obj):Prop where
  objs:∀ g,Va A ρ own w g (h g)
  apart:∀ b g,own b=some g→¬ A b
  old:∀ b,A b→b<w.heap.size
  oldO:∀ b g,own b=some g→b<w.heap.size
  base:∀ b g,own b=some g→B≤b
  below:RowKit.Below B w0.w w
  hB:B≤w0.w.heap.size
  imm:∀ b,A b→w0.A b∨B≤b
  names:∀ g,(∃ s,ρ g=some s)→h g≠.none
  glob:Vn A w
structure Yl (A:Nat→Prop) (ρ:Xo) (w:World) (A':Nat→Prop) (ρ':Xo) (w':World):Prop where
  hA:∀ b,A b→A' b
  hρ:∀ g s,ρ g=some s→ρ' g=some s
  hw:∀ b,A b→w'.heap[b]?=w.heap[b]?
theorem Yl.refl (A:Nat→Prop) (ρ:Xo) (w:World):Yl A ρ w A ρ w:=⟨fun _ h=>h,fun _ _ h=>h,fun _ _=>rfl⟩
theorem Yl.trans {A A' A'':Nat→Prop} {ρ ρ' ρ'':Xo} {w w' w'':World} (h:Yl A ρ w A' ρ' w') (k:Yl A' ρ' w' A'' ρ'' w''):Yl A ρ w A'' ρ'' w'' :=
  ⟨fun b hb=>k.hA b (h.hA b hb),fun g s hs=>k.hρ g s (h.hρ g s hs),fun b hb=>(k.hw b (h.hA b hb)).trans (h.hw b hb)⟩
theorem Yl.repV {A A':Nat→Prop} {ρ ρ':Xo} {w w':World} (h:Yl A ρ w A' ρ' w') {u:SV} {v:Value} (hv:Zk A ρ w u v):Zk A' ρ' w' u v :=
  Zk.mono h.hA h.hρ h.hw u hv
theorem Yl.repC {A A':Nat→Prop} {ρ ρ':Xo} {w w':World} (h:Yl A ρ w A' ρ' w') {τ:Ty} {x:den τ} {ov:Ov} {cs:List Value} (hv:Zl A ρ w τ x ov cs):Zl A' ρ' w' τ x ov cs :=
  Zl.mono h.hA h.hρ h.hw τ hv
theorem St.turn {B:Nat} {w0:Qq} {A A':Nat→Prop} {ρ ρ':Xo} {own own':Nat→Option Nat} {w w':World} {h h':Nat→Obj} (st:St B w0 A ρ own w h) (G:Nat→Prop)
    (hl:Yl A ρ w A' ρ' w') (hw:∀ b g,own b=some g→¬ G g→w'.heap[b]?=w.heap[b]?) (ho:∀ b g,own b=some g→¬ G g→own' b=some g)
    (hn:∀ g,¬ G g→ρ g=none→ρ' g=none) (hh:∀ g,¬ G g→h' g=h g) (hG:∀ g,G g→Va A' ρ' own' w' g (h' g)) (hGn:∀ g,G g→h' g≠.none)
    (hap:∀ b g,own' b=some g→¬ A' b) (hold:∀ b,A' b→b<w'.heap.size) (holdO:∀ b g,own' b=some g→b<w'.heap.size) (hbase:∀ b g,own' b=some g→B≤b)
    (hbelow:RowKit.Below B w w') (himm:∀ b,A' b→A b∨B≤b):St B w0 A' ρ' own' w' h' where
  glob:=st.glob.mono hl.hA hl.hw
  objs g:=by
    by_cases hg:G g
    · exact hG g hg
    · rw [hh g hg]
      refine Va.mono hl.hA hl.hρ (fun b hb => ?_) (fun b hb=>ho b g hb hg) (hn g hg) (st.objs g)
      rcases hb with hb | hb
      · exact hl.hw b hb
      · exact hw b g hb hg
  apart:=hap
  old:=hold
  oldO:=holdO
  base:=hbase
  below:=st.below.trans hbelow
  hB:=st.hB
  imm b hb:=(himm b hb).elim (st.imm b) .inr
  names g hg:=by
    by_cases hg':G g
    · exact hGn g hg'
    · rw [hh g hg']
      refine st.names g ?_
      cases hr:ρ g with
      | none=>obtain ⟨s,hs⟩:=hg; rw [hn g hg' hr] at hs; cases hs
      | some s=>exact ⟨s,rfl⟩
end Go.Proofs.YtmemggdjnfccfaaGreatDoor.Ghost
namespace Go.Proofs.YtmemggdjnfccfaaGreatDoor.Ghost
open Go
mutual
def zeroCells:Ty→List Value
  | .bool=>[.bool false]
  | .int k=>[.int k 0]
  | .str=>[.string ⟨#[]⟩]
  | .sl _=>[.slice none 0 0]
  | .arr n e=>Cw n (zeroCells e)
  | .st fs=>Gn fs
def Gn:List Ty→List Value
  | []=>[]
  | t :: r=>zeroCells t ++ Gn r
def Cw:Nat→List Value→List Value
  | 0,_=>[]
  | n+1,l=>l ++ Cw n l
end
def AHd:Value→Value→Bool
  | .bool a,.bool b=>a == b
  | .int k a,.int k' b=>decide (k=k') && decide (a=b)
  | .string a,.string b=>Nat.beq a.data.size 0 && Nat.beq b.data.size 0
  | .slice none 0 0,.slice none 0 0=>true
  | .nilFunc,.nilFunc=>true
  | _,_=>false
def Dx:List Value→List Value→Bool
  | [],[]=>true
  | a :: r,b :: s=>AHd a b && Dx r s
  | _,_=>false
theorem APk:{a b:Value}→AHd a b=true→a=b
  | .bool a,.bool b,h=>by simp [AHd] at h; rw [h]
  | .int k a,.int k' b,h=>by simp [AHd] at h; rw [h.1,h.2]
  | .string a,.string b,h=>by
    simp only [AHd,Bool.and_eq_true] at h
    have h1:=Nat.eq_of_beq_eq_true h.1
    have h2:=Nat.eq_of_beq_eq_true h.2
    obtain ⟨⟨l⟩⟩:=a
    obtain ⟨⟨m⟩⟩:=b
    simp at h1 h2
    subst h1; subst h2; rfl
  | .slice none 0 0,.slice none 0 0,_=>rfl
  | .nilFunc,.nilFunc,_=>rfl
theorem Lu:{a b:List Value}→Dx a b=true→a=b
  | [],[],_=>rfl
  | a :: r,b :: s,h=>by
    simp only [Dx,Bool.and_eq_true] at h
    rw [APk h.1,Lu h.2]
def J8 (P:Program) (t:TypeId) (n:Nat):Bool:=match P.info? t with
  | some i=>Nat.beq i.size n
  | none=>false
mutual
def X3 (P:Program):Ty→TypeId→Bool
  | .bool,t=>(match P.underlying t with | some .bool=>true | _=>false)
  | .int k,t=>(match P.underlying t with | some (.int k')=>decide (k=k') | _=>false)
  | .str,t=>(match P.underlying t with | some .string=>true | _=>false)
  | .sl e,t=>(match P.underlying t with | some (.slice e')=>X3 P e e' && J8 P e' (Zi e) && Nat.blt 0 (Zi e) | _=>false)
  | .arr n e,t=>(match P.underlying t with | some (.array n' e')=>Nat.beq n' n && X3 P e e' && J8 P e' (Zi e) && Nat.blt 0 (Zi e) | _=>false)
  | .st fs,t=>(match P.underlying t with | some (.struct l)=>Jm P fs 0 l.toList | _=>false)
def Jm (P:Program):List Ty→Nat→List Field→Bool
  | [],_,[]=>true
  | t :: r,o,f :: s=>Nat.beq f.offset o && J8 P f.type (Zi t) && Nat.blt 0 (Zi t) && X3 P t f.type && Jm P r (o+Zi t) s
  | _,_,_=>false
end
def Iw (P:Program) (τ:Ty) (t:TypeId):Bool:=match P.info? t with
  | some i=>(match i.zero with | some (.agg cs)=>Us τ && Dx cs.toList (zeroCells τ) | some v => !(Us τ) && Dx [v] (zeroCells τ) | none=>false)
  | none=>false
theorem Ur {P:Program} {t:TypeId} {n:Nat} (h:J8 P t n=true):∃ i,P.info? t=some i∧i.size=n:=by
  unfold J8 at h
  split at h
  · rename_i i hi; exact ⟨i,hi,Nat.eq_of_beq_eq_true h⟩
  · cases h
theorem AIo {P:Program} {t:TypeId} {n:Nat} (h:J8 P t n=true):(P.info? t).map (·.size)=some n:=by
  obtain ⟨i,h1,h2⟩:=Ur h
  rw [h1]; simp [h2]
theorem Vp {P:Program} {t:TypeId} {n:Nat} (h:J8 P t n=true) (w:World):(sizeOf t).run P w=.ok n w:=by
  obtain ⟨i,h1,h2⟩:=Ur h
  simp [sizeOf,typeInfo,h1,h2]
theorem Ub {P:Program} {t:TypeId} {i:TypeInfo} (h:P.info? t=some i) (w:World):(typeInfo t).run P w=.ok i w:=by
  simp [typeInfo,h]
theorem D3 {P:Program}:{τ:Ty}→{t:TypeId}→X3 P τ t=true→∃ d,P.underlying t=some d∧d.isRow=Us τ
  | .bool,_,h=>by simp only [X3] at h; split at h <;> simp_all [Us,TypeDesc.isRow]
  | .int k,_,h=>by simp only [X3] at h; split at h <;> simp_all [Us,TypeDesc.isRow]
  | .str,_,h=>by simp only [X3] at h; split at h <;> simp_all [Us,TypeDesc.isRow]
  | .sl e,_,h=>by simp only [X3] at h; split at h <;> simp_all [Us,TypeDesc.isRow]
  | .arr n e,_,h=>by simp only [X3] at h; split at h <;> simp_all [Us,TypeDesc.isRow]
  | .st fs,_,h=>by simp only [X3] at h; split at h <;> simp_all [Us,TypeDesc.isRow]
theorem AAu {P:Program} {t:TypeId} {d:TypeDesc} (h:P.underlying t=some d) (w:World):(isAgg t).run P w=.ok d.isRow w:=by
  unfold isAgg
  rw [Sem.run_bind,run_underlying h w]
  cases d <;> rfl
theorem Td {P:Program} {τ:Ty} {t:TypeId} (h:Iw P τ t=true) (w:World):(zeroValue t).run P w=.ok (mkV τ (zeroCells τ)) w:=by
  unfold Iw at h
  cases hi:P.info? t with
  | none=>rw [hi] at h; cases h
  | some i =>
    simp only [hi] at h
    simp only [zeroValue,Sem.run_bind,Ub hi,Result.andThen_ok]
    cases hz:i.zero with
    | none=>simp [hz] at h
    | some v =>
      simp only [hz] at h
      have key:v=mkV τ (zeroCells τ):=by
        cases v with
        | agg cs =>
          simp only [Bool.and_eq_true] at h
          have:=Lu h.2
          unfold mkV
          rw [h.1,← this]
        | _ =>
          simp only [Bool.and_eq_true,Bool.not_eq_true'] at h
          have:=Lu h.2
          unfold mkV
          rw [h.1,← this]; rfl
      subst key
      rfl
theorem AGb (n:Nat) (l:List Value):(Cw n l).length=n * l.length:=by
  induction n with
  | zero=>simp [Cw]
  | succ n ih=>simp only [Cw,List.length_append,ih,Nat.add_mul,Nat.one_mul]; omega
theorem AE6 (l:List Value):(n i:Nat)→i<n→cut (Cw n l) (i * l.length) l.length=l
  | 0,_,h=>by omega
  | n+1,0,_=>by simp [cut,Cw]
  | n+1,i+1,h=>by
    have:=AE6 l n i (by omega)
    unfold cut at this ⊢
    rw [show (i+1) * l.length=l.length+i * l.length by rw [Nat.add_mul]; omega]
    simp only [Cw]
    rw [← List.drop_drop,List.drop_append_of_le_length (by omega),List.drop_length,List.nil_append]
    exact this
theorem Me {α:Type} {n i:Nat} {x d:α} (h:i<n):(List.replicate n x).getD i d=x:=by
  rw [List.getD_eq_getElem?_getD,List.getElem?_replicate,if_pos h]; rfl
mutual
theorem Zl.zero (A:Nat→Prop) (ρ:Xo) (w:World):(τ:Ty)→Zl A ρ w τ (dft τ) [] (zeroCells τ)
  | .bool=>by simp only [Zl,dft,zeroCells]
  | .int k=>by simp only [Zl,dft,zeroCells]
  | .str=>by simp only [Zl,dft,zeroCells]
  | .sl e=>by
    simp only [Zl,zeroCells]
    exact ⟨none,0,0,rfl,by simp,fun _=>⟨rfl,by simp⟩⟩
  | .arr n e=>by
    have he:=Zl.zero A ρ w e
    have hl:=Zl.length e he
    simp only [Zl,zeroCells]
    refine ⟨by simp [dft],by rw [AGb,hl],fun i hi => ?_⟩
    have hc:=AE6 (zeroCells e) n i hi
    rw [hl] at hc
    simp only [dft]
    change Zl A ρ w e _ _ (cut (Cw n (zeroCells e)) (i * Zi e) (Zi e))
    rw [Me hi,hc]
    exact he
  | .st fs=>by simp only [Zl,zeroCells]; exact Xx.zero A ρ w fs 0
theorem Xx.zero (A:Nat→Prop) (ρ:Xo) (w:World):(fs:List Ty)→(j:Nat)→Xx A ρ w fs j (BLt fs) [] (Gn fs)
  | [],_=>by simp only [Xx,Gn]
  | t :: r,j=>by
    have ht:=Zl.zero A ρ w t
    have hl:=Zl.length t ht
    simp only [Xx,Gn]
    exact ⟨by rw [← hl,List.take_left]; exact ht,by rw [← hl,List.drop_left]; exact Xx.zero A ρ w r (j+1)⟩
end
def M9:(τ:Ty)→den τ→Value→Bool
  | .bool,x,.bool b=>x == b
  | .int k,x,.int k' n=>decide (k=k') && decide (x=n)
  | .str,x,.string s=>decide (x.data.toList=s.data.toList)
  | .sl _,x,.slice _ 0 _=>List.isEmpty x
  | _,_,_=>false
def Xr:Opd→Operand→Bool
  | .t i,.tmp j=>Nat.beq i j
  | .g k,.global g=>Nat.beq k g
  | .c τ x,.const v=>M9 τ x v
  | .f f,.func g=>Nat.beq f g
  | .nf,.const .nilFunc=>true
  | _,_=>false
def J9:List Opd→List Operand→Bool
  | [],[]=>true
  | x :: r,y :: s=>Xr x y && J9 r s
  | _,_=>false
def Xq (A:Nat→Prop) (ρ:Xo) (w:World) (s:Nat→SV) (a:Act):Prop:=∀ i,Zk A ρ w (s i) (a.eval (.tmp i))
theorem AE4 {A:Nat→Prop} {ρ:Xo} {w:World}:(τ:Ty)→(x:den τ)→(v:Value)→M9 τ x v=true→Zk A ρ w (.dat τ x []) v
  | .bool,x,.bool b,h=>by simp only [M9,beq_iff_eq] at h; subst h; simp only [Zk,Zl]; exact ⟨_,rfl,rfl⟩
  | .int k,x,.int k' n,h=>by
    simp only [M9,Bool.and_eq_true,decide_eq_true_eq] at h
    obtain ⟨rfl,rfl⟩:=h
    simp only [Zk,Zl]; exact ⟨_,rfl,rfl⟩
  | .str,x,.string s,h=>by
    simp only [M9,decide_eq_true_eq] at h
    have:x=s:=by
      obtain ⟨⟨l⟩⟩:=x
      obtain ⟨⟨m⟩⟩:=s
      simpa using h
    subst this
    simp only [Zk,Zl]; exact ⟨_,rfl,rfl⟩
  | .sl e,x,.slice a 0 c,h=>by
    simp only [M9,List.isEmpty_iff] at h
    subst h
    simp only [Zk,Zl]
    exact ⟨[.slice a 0 c],⟨a,0,c,rfl,by simp,fun _=>⟨rfl,by simp⟩⟩,rfl⟩
theorem Yg {A:Nat→Prop} {ρ:Xo} {w:World} {s:Nat→SV} {a:Act} (hs:Xq A ρ w s a):{x:Opd}→{y:Operand}→Xr x y=true→Zk A ρ w (evO s x) (a.eval y)
  | .t i,.tmp j,h=>by
    have:=Nat.eq_of_beq_eq_true (by simpa only [Xr] using h)
    subst this
    exact hs i
  | .c τ x,.const v,h=>AE4 τ x v h
  | .f f,.func g,h=>by
    have:=Nat.eq_of_beq_eq_true (by simpa only [Xr] using h)
    subst this
    simp only [evO,Zk]
    exact ⟨[],rfl,by simp only [Zr]⟩
  | .nf,.const .nilFunc,_=>by simp only [evO,Zk]; rfl
  | .g k,.global g,h=>by
    have:=Nat.eq_of_beq_eq_true (by simpa only [Xr] using h)
    subst this
    simp only [evO,Zk]; rfl
theorem Pf {A:Nat→Prop} {ρ:Xo} {w:World} {s:Nat→SV} {a:Act} (hs:Xq A ρ w s a):{xs:List Opd}→{ys:List Operand}→J9 xs ys=true→Zr A ρ w (xs.map (evO s)) (ys.map a.eval)
  | [],[],_=>by simp only [List.map_nil,Zr]
  | x :: r,y :: t,h=>by
    simp only [J9,Bool.and_eq_true] at h
    simp only [List.map_cons,Zr]
    exact ⟨_,_,rfl,Yg hs h.1,Pf hs h.2⟩
end Go.Proofs.YtmemggdjnfccfaaGreatDoor.Ghost
namespace Go.Proofs.YtmemggdjnfccfaaGreatDoor.Ghost
open Go
def Yq (h:Nat→Obj):Eff→Nat→Obj
  | []=>h
  | (g,o) :: r=>Yq (fun i=>if i=g then o else h i) r
theorem Tx:(h:Qa)→(g i:Nat)→(o:Obj)→Xu (Px h g o) i=if i=g then o else Xu h i
  | [],0,0,o=>by simp [Px,Xu]
  | [],0,i+1,o=>by simp [Px,Xu]
  | [],g+1,0,o=>by simp [Px,Xu]
  | [],g+1,i+1,o=>by
    have:=Tx [] g i o
    simp only [Px,Xu,this,Nat.add_right_cancel_iff]
  | x :: r,0,0,o=>by simp [Px,Xu]
  | x :: r,0,i+1,o=>by simp [Px,Xu]
  | x :: r,g+1,0,o=>by simp [Px,Xu]
  | x :: r,g+1,i+1,o=>by
    have:=Tx r g i o
    simp only [Px,Xu,this,Nat.add_right_cancel_iff]
theorem R8 (h:Qa):(e:Eff)→Xu (Pm h e)=Yq (Xu h) e
  | []=>rfl
  | (g,o) :: r=>by
    have h1:=R8 (Px h g o) r
    simp only [Pm,Yq,h1]
    congr 1
    funext i
    rw [Tx]
def Zx (P:Program) (o:Oper) (a:Act) (w:World) (B:Nat) (w0:Qq) (A:Nat→Prop) (ρ:Xo) (v:SV) (h':Nat→Obj):Prop :=
  ∀ (next:Act→World→Prop) (Q:Exit→Act→World→Prop),
    (∀ v' w' A' ρ' own',St B w0 A' ρ' own' w' h'→Yl A ρ w A' ρ' w'→Zk A' ρ' w' v v'→next (a.put o.dst v') w')→o.wp P a w next Q
section
variable {P:Program} {o:Oper} {a:Act} {w:World} {B:Nat} {w0:Qq} {A:Nat→Prop} {ρ:Xo} {own:Nat→Option Nat} {h:Nat→Obj} {s:Nat→SV}
theorem Zx.pure {v:SV} {v':Value} (st:St B w0 A ρ own w h) (he:(execOp a.eval o).run P w=.ok (.value v') w) (hv:Zk A ρ w v v') :
    Zx P o a w B w0 A ρ v h:=fun next Q K=>by
  unfold Oper.wp; rw [he]; exact K v' w A ρ own st (Yl.refl ..) hv
theorem Zx.value {v:SV} {v':Value} {w':World} {A':Nat→Prop} {ρ':Xo} {own':Nat→Option Nat} {h':Nat→Obj} (he:(execOp a.eval o).run P w=.ok (.value v') w')
    (st:St B w0 A' ρ' own' w' h') (hl:Yl A ρ w A' ρ' w') (hv:Zk A' ρ' w' v v'):Zx P o a w B w0 A ρ v h':=fun next Q K=>by
  unfold Oper.wp; rw [he]; exact K v' w' A' ρ' own' st hl hv
theorem Zx.skip {v:SV} {w':World} {A':Nat→Prop} {ρ':Xo} {own':Nat→Option Nat} {h':Nat→Obj} (he:(execOp a.eval o).run P w=.ok .skip w')
    (st:St B w0 A' ρ' own' w' h') (hl:Yl A ρ w A' ρ' w') (hv:Zk A' ρ' w' v undef):Zx P o a w B w0 A ρ v h':=fun next Q K=>by
  unfold Oper.wp; rw [he]; exact K undef w' A' ρ' own' st hl hv
theorem Gj {k:IntKind} {n:Int} {ov:Ov} {v:Value} (h:Zk A ρ w (.dat (.int k) n ov) v):v=.int k n:=by
  simp only [Zk,Zl] at h; obtain ⟨_,rfl,rfl⟩:=h; rfl
theorem Ke {b:Bool} {ov:Ov} {v:Value} (h:Zk A ρ w (.dat .bool b ov) v):v=.bool b:=by
  simp only [Zk,Zl] at h; obtain ⟨_,rfl,rfl⟩:=h; rfl
theorem G5 {k:IntKind} {n:Int} {ov:Ov}:Zk A ρ w (.dat (.int k) n ov) (.int k n):=by
  simp only [Zk,Zl]; exact ⟨_,rfl,rfl⟩
theorem Ga {b:Bool} {ov:Ov}:Zk A ρ w (.dat .bool b ov) (.bool b):=by
  simp only [Zk,Zl]; exact ⟨_,rfl,rfl⟩
theorem AGu {v:Value} (h:Zk A ρ w .und v):v=undef:=by simpa only [Zk] using h
def ADh (o:Oper) (x:Opd):Bool:=match o.op with
  | .move y=>Xr x y
  | .assign y=>Xr x y
  | _=>false
variable (st:St B w0 A ρ own w h) (hs:Xq A ρ w s a)
include st hs
theorem AKy {x:Opd} (hc:ADh o x=true):Zx P o a w B w0 A ρ (evO s x) h:=by
  unfold ADh at hc
  split at hc
  · rename_i y hy
    exact Zx.pure st (by simp [execOp,hy]) (Yg hs hc)
  · rename_i y hy
    exact Zx.pure st (by simp [execOp,hy]) (Yg hs hc)
  · cases hc
def C3 (o:Oper) (c x y:Opd):Bool:=match o.op with
  | .pick c' x' y'=>Xr c c' && Xr x x' && Xr y y'
  | _=>false
omit st hs in
theorem ADk {c x y:Opd} (hc:C3 o c x y=true):∃ c' x' y',o.op=.pick c' x' y'∧Xr c c'=true∧Xr x x'=true∧Xr y y'=true:=by
  unfold C3 at hc
  split at hc
  · rename_i c' x' y' ho
    simp only [Bool.and_eq_true] at hc
    exact ⟨c',x',y',ho,hc.1.1,hc.1.2,hc.2⟩
  · cases hc
theorem E6 {c x y:Opd} (hc:C3 o c x y=true) {t:Bool} {ov:Ov} (ht:evO s c=.dat .bool t ov) {v:SV}
    (hv:∀ u u',Zk A ρ w (evO s x) u→Zk A ρ w (evO s y) u'→Zk A ρ w v (if t then u else u')):Zx P o a w B w0 A ρ v h:=by
  obtain ⟨c',x',y',ho,h1,h2,h3⟩:=ADk hc
  have k1:=Yg hs h1
  rw [ht] at k1
  have k1:=Ke k1
  exact Zx.pure st (by simp [execOp,ho,k1,asBool]) (hv _ _ (Yg hs h2) (Yg hs h3))
def AC8 (o:Oper) (op:BinOp) (x y:Opd):Bool:=match o.op with
  | .binOp op' _ x' y' _=>decide (op'=op) && Xr x x' && Xr y y'
  | _=>false
omit st hs in
theorem AE0 {op:BinOp} {x y:Opd} (hc:AC8 o op x y=true):∃ t x' y' t',o.op=.binOp op t x' y' t'∧Xr x x'=true∧Xr y y'=true:=by
  unfold AC8 at hc
  split at hc
  · rename_i op' t x' y' t' ho
    simp only [Bool.and_eq_true,decide_eq_true_eq] at hc
    obtain ⟨⟨rfl,h1⟩,h2⟩:=hc
    exact ⟨t,x',y',t',ho,h1,h2⟩
  · cases hc
omit st hs in
theorem Cz (op:BinOp) (t:TypeId) (x y:Operand) (k k':IntKind) (m n:Int):(eqGuard op t x y (.int k m) (.int k' n)).run P w=.ok () w:=by
  unfold eqGuard; cases op <;> rfl
omit st hs in
theorem Of (op:BinOp) (t:TypeId) (x y:Operand) (m n:Bool):(eqGuard op t x y (.bool m) (.bool n)).run P w=.ok () w:=by
  unfold eqGuard; cases op <;> rfl
omit st hs in
theorem Ns (op:BinOp) (t:TypeId) (x y:Operand) (m n:ByteArray):(eqGuard op t x y (.string m) (.string n)).run P w=.ok () w:=by
  unfold eqGuard; cases op <;> rfl
theorem ANy {R:Type} {op:BinOp} {x y:Opd} {K:SV→Option R} {r:R}
    (hc:AC8 o op x y=true) (hg:AJ6 op (evO s x) (evO s y) K=some r) :
    ∃ v,K v=some r∧Zx P o a w B w0 A ρ v h:=by
  obtain ⟨t,x',y',t',ho,h1,h2⟩:=AE0 hc
  have k1:=Yg hs h1
  have k2:=Yg hs h2
  unfold AJ6 at hg
  split at hg
  · rename_i k m ov k' n ov' e1 e2
    rw [e1] at k1; rw [e2] at k2
    have k1:=Gj k1
    have k2:=Gj k2
    split at hg
    · rename_i hk
      subst hk
      have fin:∀ v:Value,(Go.binOp op t (.int k m) (.int k n)).run P w=.ok v w→(execOp a.eval o).run P w=.ok (.value v) w:=fun v hv=>by
        simp only [execOp,ho,k1,k2,Sem.run_bind,Cz,Result.andThen_ok,hv,Sem.run_pure]
      unfold Bi at hg
      split at hg
      · exact ⟨_,hg,Zx.pure st (fin _ (by simp [Go.binOp,Op.intArith])) G5⟩
      · exact ⟨_,hg,Zx.pure st (fin _ (by simp [Go.binOp,Op.intArith])) G5⟩
      · exact ⟨_,hg,Zx.pure st (fin _ (by simp [Go.binOp,Op.intArith])) G5⟩
      · split at hg
        · cases hg
        · rename_i hn
          exact ⟨_,hg,Zx.pure st (fin _ (by simp [Go.binOp,Op.intDiv,hn])) G5⟩
      · split at hg
        · cases hg
        · rename_i hn
          exact ⟨_,hg,Zx.pure st (fin _ (by simp [Go.binOp,Op.intDiv,hn])) G5⟩
      · exact ⟨_,hg,Zx.pure st (fin _ (by simp [Go.binOp,Op.intCmp]; try rfl)) Ga⟩
      · exact ⟨_,hg,Zx.pure st (fin _ (by simp [Go.binOp,Op.intCmp,bne]; try rfl)) Ga⟩
      · exact ⟨_,hg,Zx.pure st (fin _ (by simp [Go.binOp,Op.intCmp]; try rfl)) Ga⟩
      · exact ⟨_,hg,Zx.pure st (fin _ (by simp [Go.binOp,Op.intCmp]; try rfl)) Ga⟩
      · exact ⟨_,hg,Zx.pure st (fin _ (by simp [Go.binOp,Op.intCmp]; try rfl)) Ga⟩
      · exact ⟨_,hg,Zx.pure st (fin _ (by simp [Go.binOp,Op.intCmp]; try rfl)) Ga⟩
      · cases hg
    · cases hg
  · cases hg
end
end Go.Proofs.YtmemggdjnfccfaaGreatDoor.Ghost
namespace Go.Proofs.YtmemggdjnfccfaaGreatDoor.Ghost
open Go
section
variable {P:Program} {o:Oper} {a:Act} {w:World} {B:Nat} {w0:Qq} {A:Nat→Prop} {ρ:Xo} {own:Nat→Option Nat} {h:Nat→Obj} {s:Nat→SV}
def AHn (o:Oper) (x:Opd):Bool:=match o.op with
  | .unOp .not _ y=>Xr x y
  | _=>false
def AHm (o:Oper) (x:Opd):Bool:=match o.op with
  | .unOp .neg _ y=>Xr x y
  | _=>false
def isI (P:Program) (k:IntKind) (t:TypeId):Bool:=match P.underlying t with
  | some (.int k')=>decide (k'=k)
  | _=>false
def ADa (P:Program) (o:Oper) (k:IntKind) (x:Opd):Bool:=match o.op with
  | .convert src dst y=>isI P k dst && (P.underlying src).isSome && Xr x y
  | _=>false
def Ia (o:Oper) (x:Opd) (i:Nat):Bool:=match o.op with
  | .extract y j=>Nat.beq i j && Xr x y
  | _=>false
def ADc (o:Oper) (f:FuncId) (caps:List Opd):Bool:=match o.op with
  | .makeFunc (.func g) first captured=>Nat.beq f g && first.toList.isEmpty && J9 caps captured.toList
  | _=>false
def N5 (o:Oper) (b:Builtin→Bool) (xs:List Opd):Bool:=match o.op with
  | .call c=>(match c.callee with | .builtin b'=>b b' | _=>false) && J9 xs c.args.toList
  | _=>false
def AOd (P:Program) (o:Oper):Bool:=match o.op with
  | .call c=>(match c.argTypes.toList with
    | t :: _=>(match P.underlying t with | some .string=>true | _=>false)
    | []=>false)
  | _=>false
def AOc (P:Program) (o:Oper):Bool:=match o.op with
  | .call c=>(match c.argTypes.toList with | t :: _=>(match P.underlying t with | some (.slice _)=>true | _=>false) | _=>false)
  | _=>false
theorem AN9 {k:IntKind} {t:TypeId} (h:isI P k t=true):P.underlying t=some (.int k):=by
  unfold isI at h
  split at h
  · rename_i k' hk; rw [hk]; simp at h; rw [h]
  · cases h
variable (st:St B w0 A ρ own w h) (hs:Xq A ρ w s a)
include st hs
theorem AN5 {x:Opd} (hc:AHn o x=true) {b:Bool} {ov:Ov} (hx:evO s x=.dat .bool b ov):Zx P o a w B w0 A ρ (.dat .bool (!b) []) h:=by
  unfold AHn at hc
  split at hc
  · rename_i t y ho
    have k:=Yg hs hc
    rw [hx] at k
    have k:=Ke k
    exact Zx.pure st (by simp [execOp,ho,k,Op.unary]) Ga
  · cases hc
theorem AN4 {x:Opd} (hc:AHm o x=true) {k:IntKind} {n:Int} {ov:Ov} (hx:evO s x=.dat (.int k) n ov):Zx P o a w B w0 A ρ (.dat (.int k) (k.wrap (0 - n)) []) h:=by
  unfold AHm at hc
  split at hc
  · rename_i t y ho
    have k1:=Yg hs hc
    rw [hx] at k1
    have k1:=Gj k1
    exact Zx.pure st (v':=.int k (k.wrap (0 - n))) (by simp only [execOp,ho,k1,Op.unary,Op.intArith,Sem.run_bind,Sem.run_pure,Result.andThen_ok]) G5
  · cases hc
theorem AKs {x:Opd} {k:IntKind} (hc:ADa P o k x=true) {k':IntKind} {n:Int} {ov:Ov} (hx:evO s x=.dat (.int k') n ov):Zx P o a w B w0 A ρ (.dat (.int k) (k.wrap n) []) h:=by
  unfold ADa at hc
  split at hc
  · rename_i src dst y ho
    simp only [Bool.and_eq_true] at hc
    have k1:=Yg hs hc.2
    rw [hx] at k1
    have k1:=Gj k1
    obtain ⟨d,hd⟩:=Option.isSome_iff_exists.1 hc.1.2
    have hi:=AN9 hc.1.1
    refine Zx.pure st (v':=.int k (k.wrap n)) ?_ G5
    simp only [execOp,ho,k1,convert,Sem.run_bind,run_underlying hd w,run_underlying hi w,Result.andThen_ok,Conv.intToInt,Sem.run_pure]
  · cases hc
theorem ADu {x:Opd} {i:Nat} (hc:Ia o x i=true) {us:List SV} {u:SV} (hx:evO s x=.tup us) (hu:us[i]?=some u):Zx P o a w B w0 A ρ u h:=by
  unfold Ia at hc
  split at hc
  · rename_i y j ho
    simp only [Bool.and_eq_true] at hc
    have hij:=Nat.eq_of_beq_eq_true hc.1
    subst hij
    have k1:=Yg hs hc.2
    rw [hx] at k1
    simp only [Zk] at k1
    obtain ⟨vs,k1,k2⟩:=k1
    have get:∀ (us:List SV) (vs:List Value) (i:Nat),Zr A ρ w us vs→us[i]?=some u→∃ v,vs[i]?=some v∧Zk A ρ w u v:=by
      intro us
      induction us with
      | nil=>intro vs i _ h; simp at h
      | cons u' r ih =>
        intro vs i h1 h2
        simp only [Zr] at h1
        obtain ⟨v,vs',rfl,h3,h4⟩:=h1
        cases i with
        | zero=>simp at h2; subst h2; exact ⟨v,by simp,h3⟩
        | succ i=>simpa using ih vs' i h4 (by simpa using h2)
    obtain ⟨v,m1,m2⟩:=get us vs i k2 hu
    refine Zx.pure st (v':=v) ?_ m2
    simp [execOp,ho,k1,Instr.extract,m1]
  · cases hc
theorem AKt {f:FuncId} {caps:List Opd} (hc:ADc o f caps=true):Zx P o a w B w0 A ρ (.clo f (caps.map (evO s))) h:=by
  unfold ADc at hc
  split at hc
  · rename_i g first captured ho
    simp only [Bool.and_eq_true,List.isEmpty_iff] at hc
    have hij:=Nat.eq_of_beq_eq_true hc.1.1
    subst hij
    have k1:=Pf hs hc.2
    have hf:first = #[]:=by simpa using hc.1.2
    subst hf
    refine Zx.pure st (v':=.func (.func f) #[] (captured.map a.eval)) ?_ ?_
    · simp [execOp,ho,Instr.makeFunc]
    · simp only [Zk]
      exact ⟨_,by rw [← Array.toList_map],k1⟩
  · cases hc
omit st hs in
theorem Rb {b:Builtin→Bool} {xs:List Opd} (hc:N5 o b xs=true):∃ c b',o.op=.call c∧c.callee=.builtin b'∧b b'=true∧J9 xs c.args.toList=true:=by
  unfold N5 at hc
  split at hc
  · rename_i c ho
    simp only [Bool.and_eq_true] at hc
    cases hb:c.callee with
    | builtin b'=>simp only [hb] at hc; exact ⟨c,b',ho,hb,hc.1,hc.2⟩
    | value f=>simp [hb] at hc
    | invoke f m=>simp [hb] at hc
  · cases hc
omit st hs in
theorem W9 {c:Call} {b:Builtin} (ho:o.op=.call c) (hb:c.callee=.builtin b) :
    (execOp a.eval o).run P w=(builtin b c.argTypes o.type (c.args.map fun | .const _=>true | _=>false) (c.args.map a.eval)).run P w:=by
  simp [execOp,ho,Go.resolve,hb,invoke]; rfl
theorem AKv {x:Opd} (hc:N5 o (fun | .len=>true | _=>false) [x]=true) (ht:AOd P o=true) {y:ByteArray} {ov:Ov} (hx0:evO s x=.dat .str y ov):Zx P o a w B w0 A ρ (.dat (.int .i64) ((ByteArray.size y:Nat):Int) []) h:=by
  obtain ⟨c,b,ho,hb,hbb,hx⟩:=Rb hc
  cases b <;> simp at hbb
  simp only [AOd,ho] at ht
  have hx':∃ y,c.args.toList=[y]∧Xr x y=true:=by
    cases hl:c.args.toList with
    | nil=>rw [hl] at hx; simp [J9] at hx
    | cons y r=>cases r with
      | nil=>rw [hl] at hx; simp [J9] at hx; exact ⟨y,rfl,hx⟩
      | cons z r=>rw [hl] at hx; simp [J9] at hx
  obtain ⟨z,hy,hxy⟩:=hx'
  have hargs:c.args = #[z]:=by rw [← Array.toArray_toList (xs:=c.args),hy]
  cases htl:c.argTypes.toList with
  | nil=>simp [htl] at ht
  | cons t tr =>
    simp only [htl] at ht
    have ht0:c.argTypes[0]?=some t:=by rw [← Array.getElem?_toList,htl]; rfl
    have hu:P.underlying t=some .string:=by
      split at ht
      · rename_i he; exact he
      · cases ht
    have k1:=Yg hs hxy
    rw [hx0] at k1
    simp only [Zk,Zl] at k1
    obtain ⟨cs,rfl,hv⟩:=k1
    have hv:a.eval z=.string y:=hv
    refine Zx.pure st (v':=.int .i64 ((ByteArray.size y:Nat):Int)) ?_ G5
    rw [W9 ho hb,hargs]
    simp only [builtin,Builtin.len_,List.map_toArray,List.map_cons,List.map_nil,hv,ht0,Sem.run_bind]
    simp [run_underlying hu w,goInt]
theorem AN1 {x:Opd} (hc:N5 o (fun | .len=>true | _=>false) [x]=true) (ht:AOc P o=true) {R:Type} {K:SV→Option R} {r:R} (hg:AD0 h (evO s x) K=some r) :
    ∃ v,K v=some r∧Zx P o a w B w0 A ρ v h:=by
  obtain ⟨c,b,ho,hb,hbb,hx⟩:=Rb hc
  cases b <;> simp at hbb
  simp only [AOc,ho] at ht
  have hx':∃ y,c.args.toList=[y]∧Xr x y=true:=by
    cases hl:c.args.toList with
    | nil=>rw [hl] at hx; simp [J9] at hx
    | cons y r=>cases r with
      | nil=>rw [hl] at hx; simp [J9] at hx; exact ⟨y,rfl,hx⟩
      | cons z r=>rw [hl] at hx; simp [J9] at hx
  obtain ⟨y,hy,hxy⟩:=hx'
  have hargs:c.args = #[y]:=by rw [← Array.toArray_toList (xs:=c.args),hy]
  cases htl:c.argTypes.toList with
  | nil=>simp [htl] at ht
  | cons t tr =>
    simp only [htl] at ht
    have ht0:c.argTypes[0]?=some t:=by rw [← Array.getElem?_toList,htl]; rfl
    have hu:∃ e,P.underlying t=some (.slice e):=by
      split at ht
      · rename_i e he; exact ⟨e,he⟩
      · cases ht
    obtain ⟨e,hu⟩:=hu
    have k1:=Yg hs hxy
    have fin:∀ (ad:Option Addr) (n m:Nat),a.eval y=.slice ad n m→(execOp a.eval o).run P w=.ok (.value (.int .i64 n)) w:=fun ad n m hv=>by
      rw [W9 ho hb,hargs]
      simp only [builtin,Builtin.len_,List.map_toArray,List.map_cons,List.map_nil,hv,ht0,Sem.run_bind]
      simp [run_underlying hu w,goInt]
    unfold AD0 at hg
    split at hg
    · rename_i el l e1
      rw [e1] at k1
      simp only [Zk,Zl] at k1
      obtain ⟨cs,⟨ad,n,m,rfl,_,h3⟩,hv⟩:=k1
      have hn:=(h3 (by simp)).1
      subst hn
      exact ⟨_,hg,Zx.pure st (fin ad _ m hv) G5⟩
    · rename_i el l0 g e1
      rw [e1] at k1
      simp only [Zk,Zl] at k1
      obtain ⟨cs,⟨ad,n,m,rfl,h2,_⟩,hv⟩:=k1
      obtain ⟨sp,ad',hr,_,heq,_⟩:=h2 g (by simp)
      have ob:=st.objs g
      split at hg
      · rename_i el' l e2
        rw [e2] at ob
        simp only [Va,V5] at ob
        obtain ⟨sp',hr',_,_,_,_,_,hl,_⟩:=ob
        rw [hr] at hr'
        cases hr'
        cases heq
        refine ⟨_,hg,Zx.pure st (fin _ _ _ hv) ?_⟩
        rw [hl]; exact G5
      · rename_i el' l e2
        rw [e2] at ob
        simp only [Va,V5] at ob
        obtain ⟨sp',hr',_,_,_,_,_,hl,_⟩:=ob
        rw [hr] at hr'
        cases hr'
        cases heq
        refine ⟨_,hg,Zx.pure st (fin _ _ _ hv) ?_⟩
        rw [hl]; exact G5
      · cases hg
    · rename_i us e1
      rw [e1] at k1
      simp only [Zk] at k1
      obtain ⟨ad,n,m,hv,hn,_⟩:=k1
      subst hn
      exact ⟨_,hg,Zx.pure st (fin _ _ _ hv) G5⟩
    · cases hg
end
end Go.Proofs.YtmemggdjnfccfaaGreatDoor.Ghost
namespace Go.Proofs.YtmemggdjnfccfaaGreatDoor.Ghost
open Go
mutual
theorem Ro:(τ:Ty)→(p q:Xc)→(x:den τ)→(d:Dyn)→okP τ p→getP p τ x=some d→okP d.τ q→okP τ (p ++ q)∧Jv τ (p ++ q)=Jv τ p+Jv d.τ q
  | τ,[],q,x,d,_,h,hq=>by
    have:d=⟨τ,x⟩:=by cases τ <;> simpa [getP,eq_comm] using h
    subst this
    have h0:Jv τ []=0:=by cases τ <;> rfl
    exact ⟨hq,by rw [h0,Nat.zero_add]; rfl⟩
  | .st fs,i :: p,q,x,d,hk,h,hq=>by
    simp only [okP] at hk
    simp only [getP] at h
    simp only [List.cons_append,okP,Jv]
    exact AAg fs i p q x d hk h hq
  | .arr n e,i :: p,q,x,d,hk,h,hq=>by
    simp only [okP] at hk
    simp only [getP] at h
    simp only [List.cons_append,okP,Jv]
    have:=Ro e p q _ d hk.2 h hq
    exact ⟨⟨hk.1,this.1⟩,by rw [this.2]; omega⟩
  | .bool,_ :: _,_,_,_,hk,_,_=>by simp [okP] at hk
  | .int _,_ :: _,_,_,_,hk,_,_=>by simp [okP] at hk
  | .str,_ :: _,_,_,_,hk,_,_=>by simp [okP] at hk
  | .sl _,_ :: _,_,_,_,hk,_,_=>by simp [okP] at hk
theorem AAg:(fs:List Ty)→(i:Nat)→(p q:Xc)→(x:Ho fs)→(d:Dyn)→okF fs i p →
    (match Uf fs i x with | some d=>getP p d.τ d.x | none=>none)=some d→okP d.τ q→okF fs i (p ++ q)∧Uh fs i (p ++ q)=Uh fs i p+Jv d.τ q
  | [],_,_,_,_,_,hk,_,_=>by simp [okF] at hk
  | t :: r,0,p,q,x,d,hk,h,hq=>by
    simp only [okF] at hk
    simp only [Uf] at h
    simp only [okF,Uh]
    exact Ro t p q x.1 d hk h hq
  | t :: r,n+1,p,q,x,d,hk,h,hq=>by
    simp only [okF] at hk
    simp only [Uf] at h
    simp only [okF,Uh]
    have:=AAg r n p q x.2 d hk h hq
    exact ⟨this.1,by rw [this.2]; omega⟩
end
theorem Ox {P:Program}:(fs:List Ty)→(l:List Field)→(o j:Nat)→Jm P fs o l=true→j<fs.length →
    ∃ f t,l[j]?=some f∧fs[j]?=some t∧f.offset=o+Uh fs j []∧J8 P f.type (Zi t)=true∧0<Zi t∧X3 P t f.type=true∧okF fs j []
  | [],_,_,_,_,hj=>by simp at hj
  | _ :: _,[],_,_,h,_=>by simp [Jm] at h
  | t :: r,f :: s,o,0,h,_=>by
    simp only [Jm,Bool.and_eq_true] at h
    obtain ⟨⟨⟨⟨h1,h2⟩,h3⟩,h4⟩,_⟩:=h
    have h0:Jv t []=0:=by cases t <;> rfl
    have k0:okP t []:=by cases t <;> trivial
    exact ⟨f,t,rfl,rfl,by simp only [Uh,h0]; exact Nat.eq_of_beq_eq_true h1,h2,by simpa [Nat.blt_eq] using h3,h4,k0⟩
  | t :: r,f :: s,o,j+1,h,hj=>by
    simp only [Jm,Bool.and_eq_true] at h
    obtain ⟨f',t',h1,h2,h3,h4⟩:=Ox r s (o+Zi t) j h.2 (by simpa using hj)
    exact ⟨f',t',by simpa using h1,by simpa using h2,by simp only [Uh]; omega,h4⟩
theorem ABz:(fs:List Ty)→(j:Nat)→(x:Ho fs)→(d:Dyn)→Uf fs j x=some d→fs[j]?=some d.τ
  | [],_,_,_,h=>by simp [Uf] at h
  | t :: r,0,x,d,h=>by simp [Uf] at h; subst h; rfl
  | t :: r,n+1,x,d,h=>by simp only [Uf] at h; simpa using ABz r n x.2 d h
theorem ANu {fs:List Ty} {j:Nat} {x:Ho fs} {d:Dyn} (h:getP [j] (.st fs) x=some d):Uf fs j x=some d:=by
  simp only [getP] at h
  split at h
  · rename_i d' hd
    rw [hd]
    have:getP [] d'.τ d'.x=some d':=by
      obtain ⟨τ,y⟩:=d'
      cases τ <;> rfl
    exact this.symm.trans h
  · cases h
theorem Hj {w:World} {b o:Nat} {cs:List Value} (h:w.rangeAt b o cs) (k n:Nat):w.rangeAt b (o+k) (cut cs k n):=fun j v hv=>by
  rw [Qi] at hv
  split at hv
  · have:=h (k+j) v hv
    rw [show o+(k+j)=o+k+j by omega] at this
    exact this
  · cases hv
theorem AFi (cs:Array Value) (o n:Nat):(cs.extract o (o+n))=(cut cs.toList o n).toArray:=by
  apply Array.ext'
  rw [Array.toList_extract]
  simp [cut]
section
variable {P:Program} {o:Oper} {a:Act} {w:World} {B:Nat} {w0:Qq} {A:Nat→Prop} {ρ:Xo} {own:Nat→Option Nat} {h:Nat→Obj} {s:Nat→SV}
theorem ABo {τ:Ty} {x:den τ} {ov:Ov} {cs:List Value} (hr:Zl A ρ w τ x ov cs) (ha:Us τ=false):∃ v,cs=[v]:=by
  have:=Zl.length τ hr
  have h1:Zi τ=1:=by cases τ <;> simp [Us] at ha <;> rfl
  rw [h1] at this
  match cs,this with
  | [v],_=>exact ⟨v,rfl⟩
theorem Og {τ:Ty} {t:TypeId} {cs:Array Value} {off:Nat} {x:den τ} {ov:Ov} (hd:X3 P τ t=true) (hz:J8 P t (Zi τ)=true)
    (hr:Zl A ρ w τ x ov (cut cs.toList off (Zi τ))):(part t cs off).run P w=.ok (mkV τ (cut cs.toList off (Zi τ))) w:=by
  obtain ⟨d,h1,h2⟩:=D3 hd
  unfold part
  rw [Sem.run_bind,AAu h1 w,Result.andThen_ok,h2]
  cases ha:Us τ with
  | true =>
    simp only [if_true,Sem.run_bind,Vp hz,Result.andThen_ok,Sem.run_pure,mkV,ha,AFi]
  | false =>
    obtain ⟨v,hv⟩:=ABo hr ha
    have h3:(cut cs.toList off (Zi τ))[0]?=some v:=by rw [hv]; rfl
    rw [Qi] at h3
    split at h3
    · simp only [Nat.add_zero,Array.getElem?_toList] at h3
      simp [h3,mkV,ha,hv]
    · cases h3
def Bo (P:Program) (o:Oper) (τ:Ty) (j:Nat) (x:Opd):Bool:=match o.op with
  | .field T y i=>Nat.beq i j && X3 P τ T && (match τ with | .st _=>true | _=>false) && Xr x y
  | _=>false
theorem AHw (st:St B w0 A ρ own w h) (hs:Xq A ρ w s a) {τ:Ty} {j:Nat} {x:Opd} (hc:Bo P o τ j x=true) {y:den τ} {ov:Ov} (hx:evO s x=.dat τ y ov)
    {d:Dyn} (hg:getP [j] τ y=some d):Zx P o a w B w0 A ρ (.dat d.τ d.x (Vb [j] ov)) h:=by
  unfold Bo at hc
  split at hc
  · rename_i T z i ho
    simp only [Bool.and_eq_true] at hc
    obtain ⟨⟨⟨hi,hd⟩,hst⟩,hxz⟩:=hc
    have hi:=Nat.eq_of_beq_eq_true hi
    subst hi
    cases τ with
    | st fs =>
      have k1:=Yg hs hxz
      rw [hx] at k1
      simp only [Zk] at k1
      obtain ⟨cs,k1,k2⟩:=k1
      simp only [mkV,Us] at k2
      have hf:=ANu hg
      have hty:=ABz fs i y d hf
      have hlt:i<fs.length:=(List.getElem?_eq_some_iff.1 hty).1
      simp only [X3] at hd
      cases hu:P.underlying T with
      | none=>simp [hu] at hd
      | some dd =>
        cases dd with
        | struct l =>
          simp only [hu] at hd
          obtain ⟨f,t,m1,m2,m3,m4,m5,m6,m7⟩:=Ox fs l.toList 0 i hd hlt
          rw [hty] at m2
          cases m2
          have hp:=Zl.getP (.st fs) [i] k1 (by simpa only [okP] using m7) hg
          have m1':l[i]?=some f:=by rw [← Array.getElem?_toList]; exact m1
          have hoff:f.offset=Jv (.st fs) [i]:=by rw [m3,Nat.zero_add]; rfl
          rw [← hoff] at hp
          have hpart:=Og (P:=P) (cs:=cs.toArray) (off:=f.offset) m6 m4 (by simpa using hp)
          refine Zx.pure st (v':=mkV d.τ (cut cs f.offset (Zi d.τ))) ?_ (by simp only [Zk]; exact ⟨_,hp,rfl⟩)
          simp only [execOp,ho,k2,Instr.field,Sem.run_bind,run_underlying hu w,Result.andThen_ok,m1',asAgg,Sem.run_pure,hpart]
        | _=>simp [hu] at hd
    | _=>simp at hst
  · cases hc
end
end Go.Proofs.YtmemggdjnfccfaaGreatDoor.Ghost
namespace Go.Proofs.YtmemggdjnfccfaaGreatDoor.Ghost
open Go
section
variable {P:Program} {o:Oper} {a:Act} {w:World} {B:Nat} {w0:Qq} {A:Nat→Prop} {ρ:Xo} {own:Nat→Option Nat} {h:Nat→Obj} {s:Nat→SV}
def Gl (P:Program):List Nat→Nat→List Field→Bool
  | [],_,[]=>true
  | n :: r,o,f :: s=>Nat.beq f.offset o && J8 P f.type n && Nat.blt 0 n && Gl P r (o+n) s
  | _,_,_=>false
def ASr (P:Program):FT→TypeId→Bool
  | .d (.st fs),t=>X3 P (.st fs) t
  | .d _,_=>false
  | .v sizes,t=>(match P.underlying t with | some (.struct l)=>Gl P sizes 0 l.toList | _=>false)
def Oq (P:Program) (o:Oper) (t:FT) (j:Nat) (x:Opd):Bool:=match o.op with
  | .fieldAddr T y i=>Nat.beq i j && ASr P t T && Xr x y
  | _=>false
def Ta:List Nat→Nat→Nat
  | [],_=>0
  | _ :: _,0=>0
  | n :: r,j+1=>n+Ta r j
theorem Nh:(sizes:List Nat)→(l:List Field)→(o j:Nat)→Gl P sizes o l=true→j<sizes.length →
    ∃ f n,l[j]?=some f∧f.offset=o+Ta sizes j∧J8 P f.type n=true∧0<n
  | [],_,_,_,_,hj=>by simp at hj
  | _ :: _,[],_,_,h,_=>by simp [Gl] at h
  | n :: r,f :: s,o,0,h,_=>by
    simp only [Gl,Bool.and_eq_true] at h
    exact ⟨f,n,rfl,by rw [show Ta (n :: r) 0=0 from rfl,Nat.add_zero]; exact Nat.eq_of_beq_eq_true h.1.1.1,h.1.1.2,by simpa [Nat.blt_eq] using h.1.2⟩
  | n :: r,f :: s,o,j+1,h,hj=>by
    simp only [Gl,Bool.and_eq_true] at h
    obtain ⟨f',n',h1,h2,h3⟩:=Nh r s (o+n) j h.2 (by simpa using hj)
    exact ⟨f',n',by simpa using h1,by simp only [Ta]; omega,h3⟩
theorem AG0 {T:TypeId} {l:Array Field} {i:Nat} {f:Field} {n b k:Nat} (hu:P.underlying T=some (.struct l)) (hf:l[i]?=some f) (hn:J8 P f.type n=true) (hp:0<n) :
    (Instr.fieldAt T (.pointer (some ⟨b,k,none⟩)) i).run P w=.ok (.pointer (some ⟨b,k+f.offset,none⟩)) w:=by
  have:n≠0:=by omega
  simp only [Instr.fieldAt,Sem.run_bind,run_underlying hu w,Result.andThen_ok,hf,Instr.sureAddr,Sem.run_pure,fieldPlace,Vp hn,this,if_false,Addr.add_mid]
theorem De:{a b:List Nat}→Yo.natsEq a b=true→a=b
  | [],[],_=>rfl
  | x :: r,y :: s,h=>by
    simp only [Yo.natsEq,Bool.and_eq_true] at h
    rw [Nat.eq_of_beq_eq_true h.1,De h.2]
theorem Pr:(us:List SV)→(Yo.sizesV us).length=us.length
  | []=>rfl
  | _ :: r=>by simp [Yo.sizesV,Pr r]
theorem Lo:(us:List SV)→(j:Nat)→Un us j []=Ta (Yo.sizesV us) j
  | [],_=>rfl
  | u :: r,0=>by
    have:Th u []=0:=by cases u <;> rfl
    simp only [Un,this,Yo.sizesV,Ta]
  | u :: r,j+1=>by simp only [Un,Yo.sizesV,Ta,Lo r j]
theorem Ld:(us:List SV)→(j:Nat)→getV.getVL us j []=us[j]?
  | [],_=>by simp [getV.getVL]
  | u :: r,0=>by cases u <;> simp [getV.getVL,getV]
  | u :: r,j+1=>by simp only [getV.getVL,Ld r j]; simp
mutual
theorem D6:(u:SV)→(p q:Xc)→(x:SV)→getV u p=some x→getV u (p ++ q)=getV x q∧Th u (p ++ q)=Th u p+Th x q
  | u,[],q,x,hg=>by
    have:u=x:=by cases u <;> simpa [getV] using hg
    subst this
    have:Th u []=0:=by cases u <;> rfl
    exact ⟨rfl,by rw [this,Nat.zero_add]; rfl⟩
  | .agv us,i :: p,q,x,hg=>by
    simp only [getV] at hg
    have:=Fg us i p q x hg
    simpa only [List.cons_append,getV,Th] using this
  | .dat _ _ _,_ :: _,_,_,hg=>by simp [getV] at hg
  | .ptr _ _,_ :: _,_,_,hg=>by simp [getV] at hg
  | .ref _ _,_ :: _,_,_,hg=>by simp [getV] at hg
  | .refv _,_ :: _,_,_,hg=>by simp [getV] at hg
  | .selfc _ _,_ :: _,_,_,hg=>by simp [getV] at hg
  | .glo _,_ :: _,_,_,hg=>by simp [getV] at hg
  | .elp _ _ _,_ :: _,_,_,hg=>by simp [getV] at hg
  | .clo _ _,_ :: _,_,_,hg=>by simp [getV] at hg
  | .tup _,_ :: _,_,_,hg=>by simp [getV] at hg
  | .slv _,_ :: _,_,_,hg=>by simp [getV] at hg
  | .fmap _ _,_ :: _,_,_,hg=>by simp [getV] at hg
  | .nilfn,_ :: _,_,_,hg=>by simp [getV] at hg
  | .und,_ :: _,_,_,hg=>by simp [getV] at hg
  | .junk,_ :: _,_,_,hg=>by simp [getV] at hg
theorem Fg:(us:List SV)→(i:Nat)→(p q:Xc)→(x:SV)→getV.getVL us i p=some x→getV.getVL us i (p ++ q)=getV x q∧Un us i (p ++ q)=Un us i p+Th x q
  | [],_,_,_,_,hg=>by simp [getV.getVL] at hg
  | u :: r,0,p,q,x,hg=>by
    simp only [getV.getVL] at hg
    simpa only [getV.getVL,Un] using D6 u p q x hg
  | u :: r,n+1,p,q,x,hg=>by
    simp only [getV.getVL] at hg
    have:=Fg r n p q x hg
    simp only [getV.getVL,Un]
    exact ⟨this.1,by rw [this.2]; omega⟩
end
theorem H1 {g:Nat} {p:Xc} {v:Value} {sp:Hl} (hv:Zk A ρ w (.ptr g p) v) (hr:ρ g=some sp) (hm:sp.mp=false):sp.ok p∧v=.pointer (some ⟨sp.b,sp.off p,none⟩):=by
  simp only [Zk] at hv
  obtain ⟨s',h1,h2,h3⟩:=hv
  rw [hr] at h1
  cases h1
  rw [hm] at h3
  exact ⟨h2,h3⟩
theorem AIc {g:Nat} {p:Xc} {sp:Hl} (hr:ρ g=some sp) (hm:sp.mp=false) (hk:sp.ok p):Zk A ρ w (.ptr g p) (.pointer (some ⟨sp.b,sp.off p,none⟩)):=by
  simp only [Zk]
  exact ⟨sp,hr,hk,by rw [hm]⟩
theorem AAo {g i:Nat} {p:Xc} {v:Value} {sp:Hl} (hv:Zk A ρ w (.elp g i p) v) (hr:ρ g=some sp):i<sp.len∧sp.ok p∧v=.pointer (some ⟨sp.b,i * sp.es+sp.off p,none⟩):=by
  simp only [Zk] at hv
  obtain ⟨s',h1,_,h2,h3,h4⟩:=hv
  rw [hr] at h1
  cases h1
  exact ⟨h2,h3,h4⟩
variable (st:St B w0 A ρ own w h) (hs:Xq A ρ w s a)
include st hs
theorem Ap {t:FT} {j:Nat} {x:Opd} (hc:Oq P o t j x=true) {R:Type} {K:SV→Option R} {r:R} (hg:Yo h t j (evO s x) K=some r) :
    ∃ v,K v=some r∧Zx P o a w B w0 A ρ v h:=by
  unfold Oq at hc
  split at hc
  case h_2=>cases hc
  rename_i T y i ho
  simp only [Bool.and_eq_true] at hc
  obtain ⟨⟨hi,hT⟩,hxy⟩:=hc
  have hi:=Nat.eq_of_beq_eq_true hi
  subst hi
  have k1:=Yg hs hxy
  have fin:∀ (l:Array Field) (f:Field) (n b k:Nat) (v:SV),P.underlying T=some (.struct l)→l[i]?=some f→J8 P f.type n=true→0<n→a.eval y=.pointer (some ⟨b,k,none⟩) →
      Zk A ρ w v (.pointer (some ⟨b,k+f.offset,none⟩))→Zx P o a w B w0 A ρ v h:=fun l f n b k v h1 h2 h3 h4 h5 h6 =>
    Zx.pure st (by simp only [execOp,ho,h5,Sem.run_bind,AG0 h1 h2 h3 h4,Result.andThen_ok,Sem.run_pure]) h6
  unfold Yo at hg
  cases t with
  | d σ =>
    cases σ with
    | st fs =>
      simp only [ASr] at hT
      have hd:=hT
      simp only [X3] at hT
      cases hu:P.underlying T with
      | none=>simp [hu] at hT
      | some dd =>
        cases dd with
        | struct l =>
          simp only [hu] at hT
          simp only [] at hg
          cases hj:Nat.blt i fs.length with
          | false=>rw [hj] at hg; simp at hg
          | true =>
            rw [hj] at hg
            simp only [cond_true] at hg
            obtain ⟨f,t,m1,m2,m3,m4,m5,m6,m7⟩:=Ox fs l.toList 0 i hT (by simpa [Nat.blt_eq] using hj)
            have m1':l[i]?=some f:=by rw [← Array.getElem?_toList]; exact m1
            have hoff:f.offset=Jv (.st fs) [i]:=by rw [m3,Nat.zero_add]; rfl
            have hok:okP (.st fs) [i]:=by simpa only [okP] using m7
            have box:∀ (g:Nat) (p:Xc) (τ:Ty) (z:den τ) (ov:Ov) (M:Hl→List Value→Prop),evO s x=.ptr g p→T7 A ρ w g τ z ov M →
                Yo.fld τ z p (.st fs) (K (.ptr g (p ++ [i])))=some r→∃ v,K v=some r∧Zx P o a w B w0 A ρ v h:=fun g p τ z ov M hx hb hf=>by
              obtain ⟨sp,cs,n1,n2,n3,n4,_,_⟩:=hb
              rw [hx] at k1
              obtain ⟨q1,q2⟩:=H1 k1 n1 n2
              rw [n4] at q1
              unfold Yo.fld at hf
              split at hf
              · rename_i d hd'
                split at hf
                · rename_i pl _
                  obtain ⟨dτ,dx⟩:=d
                  have hdt:dτ=.st fs:=pl.down
                  subst hdt
                  have:=Ro τ p [i] z ⟨.st fs,dx⟩ q1 hd' hok
                  refine ⟨_,hf,fin l f _ _ _ _ hu m1' m4 m5 q2 ?_⟩
                  have e:sp.off p+f.offset=sp.off (p ++ [i]):=by rw [n3,this.2,hoff]
                  rw [e]
                  exact AIc n1 n2 (by rw [n4]; exact this.1)
                · cases hf
              · cases hf
            have arr:∀ (g k:Nat) (p:Xc) (e:Ty) (z:List (den e)) (M:Hl→List Value→Prop),evO s x=.elp g k p→V5 A ρ w g e z M →
                Yo.fld e (dft e) p (.st fs) (K (.elp g k (p ++ [i])))=some r→∃ v,K v=some r∧Zx P o a w B w0 A ρ v h:=fun g k p e z M hx hb hf=>by
              obtain ⟨sp,n1,n2,n3,n4,n5,n6,_⟩:=hb
              rw [hx] at k1
              obtain ⟨q0,q1,q2⟩:=AAo k1 n1
              rw [n6] at q1
              unfold Yo.fld at hf
              split at hf
              · rename_i d hd'
                split at hf
                · rename_i pl _
                  obtain ⟨dτ,dx⟩:=d
                  have hdt:dτ=.st fs:=pl.down
                  subst hdt
                  have:=Ro e p [i] (dft e) ⟨.st fs,dx⟩ q1 hd' hok
                  refine ⟨_,hf,fin l f _ _ _ _ hu m1' m4 m5 q2 ?_⟩
                  have e':k * sp.es+sp.off p+f.offset=k * sp.es+sp.off (p ++ [i]):=by rw [n5,this.2,hoff]; exact Nat.add_assoc _ _ _
                  rw [e']
                  simp only [Zk]
                  exact ⟨sp,n1,n2,q0,by rw [n6]; exact this.1,rfl⟩
                · cases hf
              · cases hf
            split at hg
            · rename_i g p hx
              have ob:=st.objs g
              split at hg
              · rename_i τ z ov hh; rw [hh] at ob; exact box g p τ z ov _ hx ob hg
              · rename_i τ z ov hh; rw [hh] at ob; exact box g p τ z ov _ hx ob hg
              · cases hg
            · rename_i g k p hx
              have ob:=st.objs g
              split at hg
              · rename_i e z hh; rw [hh] at ob; exact arr g k p e z _ hx ob hg
              · rename_i e z hh; rw [hh] at ob; exact arr g k p e z _ hx ob hg
              · cases hg
            · rename_i τ z hx
              split at hg
              · rename_i pl d _ hd'
                have hτ:τ=.st fs:=pl.down
                subst hτ
                rw [hx] at k1
                simp only [Zk] at k1
                obtain ⟨b,k,cs,q1,q2,q3,q4⟩:=k1
                have hp:=Zl.getP (.st fs) [i] q4 hok hd'
                refine ⟨_,hg,fin l f _ _ _ _ hu m1' m4 m5 q1 ?_⟩
                simp only [Zk]
                refine ⟨b,k+f.offset,_,rfl,q2,?_,Zl.ov d.τ (fun e => ?_) hp⟩
                · rw [hoff]; exact Hj q3 _ _
                · obtain ⟨q,oo⟩:=e
                  rw [Qu]; simp
              · cases hg
            · cases hg
        | _=>simp [hu] at hT
    | _=>simp [ASr] at hT
  | v sizes =>
    simp only [ASr] at hT
    simp only [] at hg
    cases hu:P.underlying T with
    | none=>simp [hu] at hT
    | some dd =>
      cases dd with
      | struct l =>
        simp only [hu] at hT
        have boxv:∀ (g:Nat) (p:Xc) (u:SV) (M:Hl→List Value→Prop),evO s x=.ptr g p→Wg A ρ w g u M →
            Yo.fldV u p sizes i (K (.ptr g (p ++ [i])))=some r→∃ v,K v=some r∧Zx P o a w B w0 A ρ v h:=fun g p u M hx hb hf=>by
          obtain ⟨sp,v,n1,n2,n3,n4,_⟩:=hb
          rw [hx] at k1
          obtain ⟨q1,q2⟩:=H1 k1 n1 n2
          unfold Yo.fldV at hf
          split at hf
          · rename_i us hus
            cases hcc:Yo.natsEq (Yo.sizesV us) sizes && Nat.blt i sizes.length with
            | false=>rw [hcc] at hf; simp at hf
            | true =>
              rw [hcc] at hf
              simp only [cond_true] at hf
              simp only [Bool.and_eq_true] at hcc
              have he:=De hcc.1
              subst he
              obtain ⟨f,n,m1,m2,m3,m4⟩:=Nh _ l.toList 0 i hT (by simpa [Nat.blt_eq] using hcc.2)
              have m1':l[i]?=some f:=by rw [← Array.getElem?_toList]; exact m1
              have happ:=D6 u p [i] (.agv us) hus
              refine ⟨_,hf,fin l f n _ _ _ hu m1' m3 m4 q2 ?_⟩
              have e':sp.off p+f.offset=sp.off (p ++ [i]):=by
                rw [n3,happ.2,m2,Nat.zero_add]; simp only [Th,Lo]
              rw [e']
              refine AIc n1 n2 ?_
              rw [n4]
              unfold okV
              rw [happ.1]
              simp only [getV,Ld]
              have hlt:i<us.length:=by
                have:=hcc.2
                rw [Nat.blt_eq,Pr] at this
                exact this
              exact ⟨us[i],List.getElem?_eq_getElem hlt⟩
          · cases hf
        split at hg
        · rename_i us hx
          split at hg
          · rename_i u hcc hu'
            have he:=De hcc
            subst he
            have hlt:i<us.length:=(List.getElem?_eq_some_iff.1 hu').1
            obtain ⟨f,n,m1,m2,m3,m4⟩:=Nh _ l.toList 0 i hT (by rw [Pr]; exact hlt)
            have m1':l[i]?=some f:=by rw [← Array.getElem?_toList]; exact m1
            rw [hx] at k1
            simp only [Zk] at k1
            obtain ⟨b,k,v,q1,q2,q3,vs,rfl,q4,q5⟩:=k1
            obtain ⟨v',w1,w2⟩:=Zr.getV us q4 q5 (i:=i) (p:=[]) (x:=u) (by rw [Ld]; exact hu')
            refine ⟨_,hg,fin l f n _ _ _ hu m1' m3 m4 q1 ?_⟩
            simp only [Zk]
            refine ⟨b,k+f.offset,v',rfl,q2,?_,w1⟩
            rw [w2,m2,Nat.zero_add,← Lo]
            exact Hj q3 _ _
          · cases hg
        · rename_i g p hx
          have ob:=st.objs g
          split at hg
          · rename_i u hh; rw [hh] at ob; exact boxv g p u _ hx ob hg
          · rename_i u hh; rw [hh] at ob; exact boxv g p u _ hx ob hg
          · cases hg
        · cases hg
      | _=>simp [hu] at hT
end
end Go.Proofs.YtmemggdjnfccfaaGreatDoor.Ghost
namespace Go.Proofs.YtmemggdjnfccfaaGreatDoor.Ghost
open Go
section
variable {P:Program} {o:Oper} {a:Act} {w:World} {B:Nat} {w0:Qq} {A:Nat→Prop} {ρ:Xo} {own:Nat→Option Nat} {h:Nat→Obj} {s:Nat→SV}
theorem Fk {R:Type} {n:Int} {m:Nat} {K:Nat→Option R} {r:R} (hg:inB n m K=some r):0≤n∧n<(m:Int)∧K n.toNat=some r:=by
  unfold inB at hg
  split at hg
  · rename_i hn; exact ⟨hn.1,hn.2,hg⟩
  · cases hg
def AS1 (P:Program):IT→TypeId→Bool
  | .sl e,t=>X3 P (.sl e) t
  | .arr n e,t=>X3 P (.arr n e) t
  | .slv n,t=>(match P.underlying t with | some (.slice e)=>J8 P e n | _=>false)
def Bp (P:Program) (o:Oper) (t:IT) (x i:Opd):Bool:=match o.op with
  | .indexAddr T y z=>AS1 P t T && Xr x y && Xr i z
  | _=>false
theorem Rr {T e:TypeId} {sz b k len cap:Nat} {kd:IntKind} {n:Int} (hu:P.underlying T=some (.slice e)) (hz:J8 P e sz=true) (h0:0≤n) (h1:n<(len:Int)) :
    (Instr.indexAt T (.slice (some ⟨b,k,none⟩) len cap) (.int kd n)).run P w=.ok (.pointer (some ⟨b,k+n.toNat * sz,none⟩)) w:=by
  simp only [Instr.indexAt,asIntOf,Sem.run_bind,Sem.run_pure,Result.andThen_ok,run_underlying hu w,h0,h1,and_self,if_true,Vp hz,Addr.add_mid]
theorem Nt {T e:TypeId} {sz b k len:Nat} {kd:IntKind} {n:Int} (hu:P.underlying T=some (.array len e)) (hz:J8 P e sz=true) (h0:0≤n) (h1:n<(len:Int)) :
    (Instr.indexAt T (.pointer (some ⟨b,k,none⟩)) (.int kd n)).run P w=.ok (.pointer (some ⟨b,k+n.toNat * sz,none⟩)) w:=by
  simp only [Instr.indexAt,asIntOf,Instr.sureAddr,Sem.run_bind,Sem.run_pure,Result.andThen_ok,run_underlying hu w,h0,h1,and_self,if_true,Vp hz,Addr.add_mid]
theorem Ev {e:Ty} {t:TypeId} (hd:X3 P (.sl e) t=true):∃ e',P.underlying t=some (.slice e')∧X3 P e e'=true∧J8 P e' (Zi e)=true∧0<Zi e:=by
  simp only [X3] at hd
  split at hd
  · rename_i e' he
    simp only [Bool.and_eq_true] at hd
    exact ⟨e',he,hd.1.1,hd.1.2,by simpa [Nat.blt_eq] using hd.2⟩
  · cases hd
theorem Rd {n:Nat} {e:Ty} {t:TypeId} (hd:X3 P (.arr n e) t=true):∃ e',P.underlying t=some (.array n e')∧X3 P e e'=true∧J8 P e' (Zi e)=true∧0<Zi e:=by
  simp only [X3] at hd
  split at hd
  · rename_i n' e' he
    simp only [Bool.and_eq_true] at hd
    have:=Nat.eq_of_beq_eq_true hd.1.1.1
    subst this
    exact ⟨e',he,hd.1.1.2,hd.1.2,by simpa [Nat.blt_eq] using hd.2⟩
  · cases hd
theorem AAz {z:Nat}:(us:List SV)→(j:Nat)→(∀ u,u∈us→Jw u=z)→j≤us.length→Ta (Yo.sizesV us) j=j * z
  | [],j,_,hj=>by simp at hj; subst hj; simp [Yo.sizesV,Ta]
  | u :: r,0,_,_=>by simp [Yo.sizesV,Ta]
  | u :: r,j+1,h,hj=>by
    simp only [Yo.sizesV,Ta,AAz r j (fun u hu=>h u (by simp [hu])) (by simpa using hj),h u (by simp),Nat.add_mul,Nat.one_mul]
    omega
variable (st:St B w0 A ρ own w h) (hs:Xq A ρ w s a)
include st hs
theorem AHx {t:IT} {x i:Opd} (hc:Bp P o t x i=true) {R:Type} {K:SV→Option R} {r:R} (hg:Uz t h (evO s x) (evO s i) K=some r) :
    ∃ v,K v=some r∧Zx P o a w B w0 A ρ v h:=by
  unfold Bp at hc
  split at hc
  case h_2=>cases hc
  rename_i T y z ho
  simp only [Bool.and_eq_true] at hc
  obtain ⟨⟨hT,hx⟩,hi⟩:=hc
  have k1:=Yg hs hx
  have k2:=Yg hs hi
  have fin:∀ (v':Value) (v:SV),(Instr.indexAt T (a.eval y) (a.eval z)).run P w=.ok v' w→Zk A ρ w v v'→Zx P o a w B w0 A ρ v h:=fun v' v h1 h2 =>
    Zx.pure st (by simp only [execOp,ho,Sem.run_bind,h1,Result.andThen_ok,Sem.run_pure]) h2
  unfold Uz at hg
  split at hg
  case h_2=>cases hg
  rename_i kd n ovi hin
  rw [hin] at k2
  have k2:=Gj k2
  rw [k2] at fin
  cases t with
  | sl σ =>
    simp only [AS1] at hT
    obtain ⟨e',u1,u2,u3,u4⟩:=Ev hT
    simp only [] at hg
    have own:∀ (e:Ty) (l0:List (den e)) (g:Nat) (e1:Ty) (l:List (den e1)) (M:Hl→List Value→Prop),evO s x=.dat (.sl e) l0 [([],some g)]→V5 A ρ w g e1 l M →
        (match Ha e1 σ with | some _=>inB n l.length fun j=>K (.elp g j []) | none=>none)=some r→∃ v,K v=some r∧Zx P o a w B w0 A ρ v h:=fun e l0 g e1 l M hx' hb hf=>by
      obtain ⟨sp,n1,n2,n3,n4,n5,n6,n7,n8,n9⟩:=hb
      rw [hx'] at k1
      simp only [Zk,Zl] at k1
      obtain ⟨cs,⟨ad,len,cap,rfl,q2,_⟩,hv⟩:=k1
      obtain ⟨sp',ad',w1,_,w2,w3⟩:=q2 g (by simp)
      rw [n1] at w1
      cases w1
      cases w2
      split at hf
      · rename_i pl _
        have:=pl.down
        subst this
        obtain ⟨i0,i1,i2⟩:=Fk hf
        rw [n7] at i1
        have hcap:0<sp.cap:=by omega
        have:=w3 hcap
        subst this
        refine ⟨_,i2,fin _ _ (by rw [hv]; exact Rr u1 u3 i0 i1) ?_⟩
        simp only [Zk]
        refine ⟨sp,n1,n2,by omega,by rw [n6]; cases e1 <;> trivial,?_⟩
        have h0:Jv e1 []=0:=by cases e1 <;> rfl
        rw [n5,h0,n3,Nat.zero_add,Nat.add_zero]
      · cases hf
    split at hg
    · rename_i e l hx'
      rw [hx'] at k1
      simp only [Zk,Zl] at k1
      obtain ⟨cs,⟨ad,len,cap,rfl,_,q3⟩,hv⟩:=k1
      split at hg
      · rename_i pl _
        have:=pl.down
        subst this
        obtain ⟨i0,i1,i2⟩:=Fk hg
        obtain ⟨q4,q5⟩:=q3 (by simp)
        subst q4
        obtain ⟨b,k,ds,rfl,w1,w2,w3,w4⟩:=q5 (by omega)
        refine ⟨_,i2,fin _ _ (by rw [hv]; exact Rr u1 u3 i0 i1) ?_⟩
        simp only [Zk]
        exact ⟨b,_,_,rfl,w1,Hj w2 _ _,w4 n.toNat (by omega)⟩
      · cases hg
    · rename_i e l0 g hx'
      have ob:=st.objs g
      split at hg
      · rename_i e1 l hh; rw [hh] at ob; exact own e l0 g e1 l _ hx' ob hg
      · rename_i e1 l hh; rw [hh] at ob; exact own e l0 g e1 l _ hx' ob hg
      · cases hg
    · cases hg
  | arr M σ =>
    simp only [AS1] at hT
    obtain ⟨e',u1,u2,u3,u4⟩:=Rd hT
    simp only [] at hg
    have box:∀ (g:Nat) (p:Xc) (τ:Ty) (q:den τ) (ov:Ov) (M':Hl→List Value→Prop),evO s x=.ptr g p→T7 A ρ w g τ q ov M' →
        Uz.arrAt τ q p M σ n (fun j=>K (.ptr g (p ++ [j])))=some r→∃ v,K v=some r∧Zx P o a w B w0 A ρ v h:=fun g p τ q ov M' hx' hb hf=>by
      obtain ⟨sp,cs,n1,n2,n3,n4,_,_⟩:=hb
      rw [hx'] at k1
      obtain ⟨q1,q2⟩:=H1 k1 n1 n2
      rw [n4] at q1
      unfold Uz.arrAt at hf
      split at hf
      · rename_i N e dx hd'
        split at hf
        · rename_i pl _ hN
          have:=pl.down
          subst this
          have hN:=Nat.eq_of_beq_eq_true hN
          subst hN
          obtain ⟨i0,i1,i2⟩:=Fk hf
          have hlt:n.toNat<N:=by omega
          have h0:Jv e []=0:=by cases e <;> rfl
          have:=Ro τ p [n.toNat] q ⟨.arr N e,dx⟩ q1 hd' ⟨hlt,by cases e <;> trivial⟩
          refine ⟨_,i2,fin _ _ (by rw [q2]; exact Nt u1 u3 i0 i1) ?_⟩
          have e':sp.off p+n.toNat * Zi e=sp.off (p ++ [n.toNat]):=by
            rw [n3,this.2]; simp only [Jv,h0,Nat.add_zero]
          rw [e']
          exact AIc n1 n2 (by rw [n4]; exact this.1)
        · cases hf
      · cases hf
    split at hg
    · rename_i N e l hx'
      split at hg
      · rename_i pl _ hN
        have:=pl.down
        subst this
        have hN:=Nat.eq_of_beq_eq_true hN
        subst hN
        obtain ⟨i0,i1,i2⟩:=Fk hg
        rw [hx'] at k1
        simp only [Zk,Zl] at k1
        obtain ⟨b,k,cs,q1,q2,q3,q4,q5,q6⟩:=k1
        have hlt:n.toNat<N:=by omega
        refine ⟨_,i2,fin _ _ (by rw [q1]; exact Nt u1 u3 i0 i1) ?_⟩
        simp only [Zk]
        exact ⟨b,_,_,rfl,q2,Hj q3 _ _,q6 n.toNat hlt⟩
      · cases hg
    · rename_i g p hx'
      have ob:=st.objs g
      split at hg
      · rename_i τ q ov hh; rw [hh] at ob; exact box g p τ q ov _ hx' ob hg
      · rename_i τ q ov hh; rw [hh] at ob; exact box g p τ q ov _ hx' ob hg
      · cases hg
    · cases hg
  | slv sz =>
    simp only [AS1] at hT
    simp only [] at hg
    cases hu:P.underlying T with
    | none=>simp [hu] at hT
    | some dd =>
      cases dd with
      | slice e' =>
        simp only [hu] at hT
        split at hg
        · rename_i us hx'
          split at hg
          · rename_i j _
            split at hg
            · rename_i u hu'
              split at hg
              · rename_i hsz
                have hsz:=Nat.eq_of_beq_eq_true hsz
                rw [hx'] at k1
                simp only [Zk] at k1
                obtain ⟨ad,len,cap,q1,q2,vs,q3,q4,⟨zz,q5⟩,q6⟩:=k1
                have hlt:j<us.length:=(List.getElem?_eq_some_iff.1 hu').1
                obtain ⟨b,k,rfl,w1,w2⟩:=q6 (by omega)
                have hzz:zz=sz:=by rw [← q5 u (List.mem_of_getElem? hu')]; exact hsz
                subst hzz
                obtain ⟨v',v1,v2⟩:=Zr.getV us q3 q4 (i:=j) (p:=[]) (x:=u) (by rw [Ld]; exact hu')
                refine ⟨_,hg,fin _ _ (by rw [q1]; exact Rr (n:=(j:Int)) hu hT (by omega) (by omega)) ?_⟩
                simp only [Zk]
                refine ⟨b,_,v',rfl,w1,?_,v1⟩
                rw [v2,Lo,AAz us j q5 (by omega)]
                exact Hj w2 _ _
              · cases hg
            · cases hg
          · cases hg
        · cases hg
      | _=>simp [hu] at hT
end
end Go.Proofs.YtmemggdjnfccfaaGreatDoor.Ghost
