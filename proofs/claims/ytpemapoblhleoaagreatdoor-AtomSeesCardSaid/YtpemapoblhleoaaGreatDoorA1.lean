/- The ghost semantics, and memory as it has it. Conditions: none. -/
import GoSem.Dispatch
import Derived.Deep.MidRow
import Derived.Below
import Derived.Orders
set_option linter.unusedVariables false
set_option linter.unusedSimpArgs false
set_option linter.unusedSectionVars false
set_option linter.unnecessarySimpa false
namespace Go.Proofs.YtpemapoblhleoaaGreatDoor.Ghost
open Go
inductive Ty where
  | bool | int (k:IntKind) | str
  | sl (e:Ty) | arr (n:Nat) (e:Ty) | st (fs:List Ty)
mutual
@[reducible] def den:Ty→Type
  | .bool=>Bool
  | .int _=>Int
  | .str=>ByteArray
  | .sl e=>List (den e)
  | .arr _ e=>List (den e)
  | .st fs=>K2 fs
@[reducible] def K2:List Ty→Type
  | []=>Unit
  | t :: r=>den t×K2 r
end
mutual
def dft:(t:Ty)→den t
  | .bool=>false
  | .int _=>(0:Int)
  | .str=>(⟨#[]⟩:ByteArray)
  | .sl _=>[]
  | .arr n e=>List.replicate n (dft e)
  | .st fs=>BGu fs
def BGu:(l:List Ty)→K2 l
  | []=>()
  | t :: r=>(dft t,BGu r)
end
mutual
def Zj:Ty→Nat
  | .st fs=>Gm fs
  | .arr n e=>n * Zj e
  | _=>1
def Gm:List Ty→Nat
  | []=>0
  | t :: r=>Zj t+Gm r
end
structure Dyn where
  τ:Ty
  x:den τ
abbrev Z3:=List Nat
def Gi:(l:List Ty)→Nat→K2 l→Option Dyn
  | [],_,_=>none
  | t :: _,0,x=>some ⟨t,x.1⟩
  | _ :: r,n+1,x=>Gi r n x.2
def getP:Z3→(τ:Ty)→den τ→Option Dyn
  | [],τ,x=>some ⟨τ,x⟩
  | i :: p,.st fs,x=>match Gi fs i x with
    | some d=>getP p d.τ d.x
    | none=>none
  | i :: p,.arr _ e,x=>getP p e (List.getD x i (dft e))
  | _ :: _,_,_=>none
mutual
def Kl:(a b:Ty)→Option (PLift (a=b))
  | .bool,.bool=>some ⟨rfl⟩
  | .int k,.int k'=>if h:k=k' then some ⟨by rw [h]⟩ else none
  | .str,.str=>some ⟨rfl⟩
  | .sl a,.sl b=>match Kl a b with | some ⟨h⟩=>some ⟨by rw [h]⟩ | none=>none
  | .arr n a,.arr m b=>if hn:n=m then match Kl a b with | some ⟨h⟩=>some ⟨by rw [h,hn]⟩ | none=>none else none
  | .st a,.st b=>match B2 a b with | some ⟨h⟩=>some ⟨by rw [h]⟩ | none=>none
  | _,_=>none
def B2:(a b:List Ty)→Option (PLift (a=b))
  | [],[]=>some ⟨rfl⟩
  | a :: r,b :: s=>match Kl a b with
    | some ⟨h⟩=>match B2 r s with
      | some ⟨h'⟩=>some ⟨by rw [h,h']⟩
      | none=>none
    | none=>none
  | _,_=>none
end
def Ji (a b:Ty) (x:den a):Option (den b):=match Kl a b with
  | some ⟨h⟩=>some (h ▸ x)
  | none=>none
mutual
def Ki:(l:List Ty)→Nat→Z3→K2 l→Dyn→Option (K2 l)
  | [],_,_,_,_=>none
  | t :: _,0,p,x,d=>match setP t p x.1 d with
    | some y=>some (y,x.2)
    | none=>none
  | _ :: r,n+1,p,x,d=>match Ki r n p x.2 d with
    | some y=>some (x.1,y)
    | none=>none
def setP:(t:Ty)→Z3→den t→Dyn→Option (den t)
  | t,[],_,d=>Ji d.τ t d.x
  | .st fs,i :: p,x,d=>Ki fs i p x d
  | .arr _ e,i :: p,x,d=>match setP e p (List.getD x i (dft e)) d with
    | some y=>some (List.set x i y)
    | none=>none
  | _,_ :: _,_,_=>none
end
def Z0:Z3→Z3→Bool
  | [],[]=>true
  | i :: p,j :: q=>Nat.beq i j && Z0 p q
  | _,_=>false
inductive SV where
  | dat (τ:Ty) (x:den τ) (ov:List (Z3×Option Nat))
  | ptr (g:Nat) (p:Z3)
  | ref (τ:Ty) (x:den τ)
  | refv (v:SV)
  | selfc (f:FuncId) (caps:List SV)
  | glo (k:Nat)
  | elp (g i:Nat) (p:Z3)
  | clo (f:FuncId) (caps:List SV)
  | tup (vs:List SV)
  | slv (vs:List SV)
  | fmap (ks:List Int) (vs:List SV)
  | agv (vs:List SV)
  | nilfn
  | und
  | junk
inductive Obj where
  | box (τ:Ty) (x:den τ) (ov:List (Z3×Option Nat))
  | boxv (v:SV)
  | fbox (τ:Ty) (x:den τ) (ov:List (Z3×Option Nat))
  | fboxv (v:SV)
  | arr (e:Ty) (l:List (den e))
  | frz (e:Ty) (l:List (den e))
  | map (k v:Ty) (l:List (den k×den v))
  | hid
  | dead
  | none
abbrev Y3:=List Obj
abbrev Xn:=List (Nat×SV)
def Xp:Y3→Nat→Obj
  | [],_=>.none
  | o :: _,0=>o
  | _ :: r,n+1=>Xp r n
def Rm:Y3→Nat→Obj→Y3
  | [],0,o=>[o]
  | [],n+1,o=>.none :: Rm [] n o
  | _ :: r,0,o=>o :: r
  | x :: r,n+1,o=>x :: Rm r n o
def Xv:Xn→Nat→SV
  | [],_=>.junk
  | (i,v) :: r,j=>match Nat.beq i j with | true=>v | false=>Xv r j
def M5:Xn→Nat→SV→Xn
  | [],j,x=>[(j,x)]
  | (i,v) :: r,j,x=>match Nat.beq i j with | true=>(i,x) :: r | false=>(i,v) :: M5 r j x
def Fz (s:Xn):Option Nat→SV→Xn
  | none,_=>s
  | some d,v=>M5 s d v
def Ia (k:List Nat):Xn→Xn
  | []=>[]
  | (i,v) :: r=>match k.any (Nat.beq i) with | true=>Ia k r | false=>(i,v) :: Ia k r
def Ht:Z3→Z3→Option Z3
  | [],q=>some q
  | i :: p,j :: q=>match Nat.beq i j with | true=>Ht p q | false=>none
  | _ :: _,[]=>none
def Jn (p:Z3):List (Z3×Option Nat)→List (Z3×Option Nat)
  | []=>[]
  | (q,g) :: r=>match Ht p q with | some q'=>(q',g) :: Jn p r | none=>Jn p r
def Pz (p:Z3):List (Z3×Option Nat)→List (Z3×Option Nat)
  | []=>[]
  | (q,g) :: r=>match Ht p q with | some _=>Pz p r | none=>(q,g) :: Pz p r
def Es (p:Z3):List (Z3×Option Nat)→List (Z3×Option Nat)
  | []=>[]
  | (q,g) :: r=>(p ++ q,g) :: Es p r
def AMl:Z3→Z3→Bool
  | [],[]=>false
  | [],_ :: _=>true
  | _ :: _,[]=>false
  | i :: p,j :: q=>Nat.blt i j || Nat.beq i j && AMl p q
def AEw (e:Z3×Option Nat):List (Z3×Option Nat)→List (Z3×Option Nat)
  | []=>[e]
  | x :: r=>match AMl e.1 x.1 with | true=>e :: x :: r | false=>x :: AEw e r
def N6:List (Z3×Option Nat)→List (Z3×Option Nat)→List (Z3×Option Nat)
  | [],ov=>ov
  | e :: r,ov=>N6 r (AEw e ov)
def getV:SV→Z3→Option SV
  | v,[]=>some v
  | .agv vs,i :: p=>getVL vs i p
  | _,_ :: _=>none
where getVL:List SV→Nat→Z3→Option SV
  | [],_,_=>none
  | v :: _,0,p=>getV v p
  | _ :: r,n+1,p=>getVL r n p
def resolve (h:Nat→Obj) (τ:Ty) (x:den τ):List (Z3×Option Nat)→Option (den τ)
  | []=>some x
  | (q,some g) :: r=>match h g with
    | .arr e l=>match setP τ q x ⟨.sl e,l⟩ with
      | some y=>resolve h τ y r
      | none=>none
    | .frz e l=>match setP τ q x ⟨.sl e,l⟩ with
      | some y=>resolve h τ y r
      | none=>none
    | _=>none
  | (_,none) :: _=>none
def Ly:den (.arr 11 .str):=[(⟨#[]⟩:ByteArray),(⟨#[109,111,118,101]⟩:ByteArray),(⟨#[112,117,115,104]⟩:ByteArray),(⟨#[103,101,116]⟩:ByteArray),(⟨#[100,114,111,112]⟩:ByteArray),(⟨#[112,117,116]⟩:ByteArray),(⟨#[116,97,107,101]⟩:ByteArray),(⟨#[103,105,118,101]⟩:ByteArray),(⟨#[116,114,97,100,101]⟩:ByteArray),(⟨#[108,111,111,107]⟩:ByteArray),(⟨#[111,119,110]⟩:ByteArray)]
def Lz:den (.arr 4 .str):=[(⟨#[110,111,114,116,104]⟩:ByteArray),(⟨#[101,97,115,116]⟩:ByteArray),(⟨#[115,111,117,116,104]⟩:ByteArray),(⟨#[119,101,115,116]⟩:ByteArray)]
def Rw:Nat→Option Dyn:=fun k=>match k with
  | 0=>some ⟨(.arr 11 .str),Ly⟩
  | 1=>some ⟨(.arr 4 .str),Lz⟩
  | _=>none
def AF2 {R:Type} (o:Option Dyn) (M:Nat) (σ:Ty) (K:(l:List (den σ))→Option R):Option R:=match o with
  | some ⟨.arr N e,l⟩=>(match Kl e σ,Nat.beq N M with | some ⟨h⟩,true=>K (h ▸ l) | _,_=>none)
  | _=>none
inductive Opd where
  | t (i:Nat)
  | g (k:Nat)
  | c (τ:Ty) (x:den τ)
  | f (f:FuncId)
  | nf
def evO (s:Nat→SV):Opd→SV
  | .t i=>s i
  | .g k=>.glo k
  | .c τ x=>.dat τ x []
  | .f f=>.clo f []
  | .nf=>.nilfn
inductive Sh where
  | d (τ:Ty)
  | ref (τ:Ty)
  | refv (s:Sh)
  | selfc (f:FuncId) (l:List Sh)
  | clo (f:FuncId) (l:List Sh)
  | nilfn
  | agv (l:List Sh)
  | slv (l:List Sh)
  | fmap (ks:List Int) (l:List Sh)
mutual
@[reducible] def dSh:Sh→Type
  | .d τ=>den τ
  | .ref τ=>den τ
  | .refv s=>dSh s
  | .selfc _ l=>Z9 l
  | .clo _ l=>Z9 l
  | .nilfn=>Unit
  | .agv l=>Z9 l
  | .slv l=>Z9 l
  | .fmap _ l=>Z9 l
@[reducible] def Z9:List Sh→Type
  | []=>Unit
  | s :: r=>dSh s×Z9 r
end
mutual
def inj:(s:Sh)→dSh s→SV
  | .d τ,x=>.dat τ x []
  | .ref τ,x=>.ref τ x
  | .refv s,x=>.refv (inj s x)
  | .selfc f l,x=>.selfc f (Kd l x)
  | .clo f l,x=>.clo f (Kd l x)
  | .nilfn,_=>.nilfn
  | .agv l,x=>.agv (Kd l x)
  | .slv l,x=>.slv (Kd l x)
  | .fmap ks l,x=>.fmap ks (Kd l x)
def Kd:(l:List Sh)→Z9 l→List SV
  | [],_=>[]
  | s :: r,x=>inj s x.1 :: Kd r x.2
end
def AAg:List Int→List Int→Bool
  | [],[]=>true
  | a :: r,b :: s=>(a == b) && AAg r s
  | _,_=>false
mutual
def prj:(s:Sh)→SV→Option (dSh s)
  | .d τ,.dat σ x []=>Ji σ τ x
  | .ref τ,.ref σ x=>Ji σ τ x
  | .refv s,.refv v=>prj s v
  | .selfc f l,.selfc g vs=>match Nat.beq f g with | true=>R6 l vs | false=>none
  | .clo f l,.clo g vs=>match Nat.beq f g with | true=>R6 l vs | false=>none
  | .nilfn,.nilfn=>some ()
  | .agv l,.agv vs=>R6 l vs
  | .slv l,.slv vs=>R6 l vs
  | .fmap ks l,.fmap ks' vs=>match AAg ks ks' with | true=>R6 l vs | false=>none
  | _,_=>none
def R6:(l:List Sh)→List SV→Option (Z9 l)
  | [],[]=>some ()
  | s :: r,v :: vs=>match prj s v with
    | some x=>match R6 r vs with
      | some y=>some (x,y)
      | none=>none
    | none=>none
  | _,_=>none
end
inductive LT where
  | d (τ:Ty)
  | v (agg:Bool) (n:Nat)
inductive FT where
  | d (τ:Ty)
  | v (sizes:List Nat)
inductive IT where
  | sl (e:Ty)
  | arr (n:Nat) (e:Ty)
  | slv (n:Nat)
inductive GOp where
  | move (x:Opd)
  | mknil (k:Nat) (e:Ty)
  | pick (c a b:Opd)
  | newbox (k:Nat) (τ:Ty) (nils:List (Z3×Nat))
  | newboxv (k:Nat) (z:SV)
  | box (k:Nat) (x:Opd)
  | load (t:LT) (a:Opd)
  | store (t:LT) (a v:Opd)
  | bin (op:BinOp) (x y:Opd)
  | eqs (τ:Ty) (neg:Bool) (x y:Opd)
  | not (x:Opd)
  | neg (x:Opd)
  | conv (k:IntKind) (x:Opd)
  | fieldAddr (t:FT) (j:Nat) (a:Opd)
  | field (τ:Ty) (j:Nat) (a:Opd)
  | index (t:IT) (x i:Opd)
  | len (x:Opd)
  | lens (x:Opd)
  | slicearr (n:Nat) (e:Ty) (x:Opd)
  | max (xs:List Opd)
  | min (xs:List Opd)
  | build (τ:Ty) (parts:List (Nat×Opd)) (nils:List (Z3×Nat))
  | buildv (sizes:List Nat) (parts:List Opd)
  | slice (k:Nat) (e:Ty) (parts:List Opd)
  | slicev (size:Nat) (parts:List Opd)
  | make (k:Nat) (e:Ty) (n:Opd)
  | append (k:Nat) (e:Ty) (x y:Opd)
  | extract (x:Opd) (i:Nat)
  | func (f:FuncId) (caps:List Opd)
  | mkmap (k:Nat) (κ ν:Ty)
  | lookup (κ ν:Ty) (m i:Opd)
  | lookv (m i:Opd) (ok:Bool)
  | slx (e:Ty) (x:Opd) (lo hi:Option Opd)
  | mapset (κ ν:Ty) (m i v:Opd)
  | mapent (κ ν:Ty) (m i:Opd)
  | mapst (κ ν:Ty) (m e v:Opd)
  | call (f:Opd) (args:List Opd) (res:List Sh) (keep:List ((Nat×Z3)×Nat)) (opt:Bool)
  | fail
abbrev Eff:=List (Nat×Obj)
def Pf (h:Y3):Eff→Y3
  | []=>h
  | (g,o) :: r=>Pf (Rm h g o) r
def AGz {α:Type} (f:α→α→Bool):List α→List α→Bool
  | x :: r,y :: r'=>f x y && AGz f r r'
  | _,_=>true
mutual
def eqT:(t:Ty)→den t→den t→Bool
  | .bool,x,y=>x == y
  | .int _,x,y=>x == y
  | .str,x,y=>x == y
  | .sl _,_,_=>false
  | .arr _ e,x,y=>AGz (eqT e) x y
  | .st fs,x,y=>ABy fs x y
def ABy:(l:List Ty)→K2 l→K2 l→Bool
  | [],_,_=>true
  | t :: r,x,y=>eqT t x.1 y.1 && ABy r x.2 y.2
end
mutual
def BGt:Ty→Bool
  | .sl _=>false
  | .arr _ e=>BGt e
  | .st fs=>ARq fs
  | _=>true
def ARq:List Ty→Bool
  | []=>true
  | t :: r=>BGt t && ARq r
end
section
variable {R:Type}
def Du (op:BinOp) (k:IntKind) (x y:Int) (K:SV→Option R):Option R :=
  match op with
  | .add=>K (.dat (.int k) (k.wrap (x+y)) [])
  | .sub=>K (.dat (.int k) (k.wrap (x - y)) [])
  | .mul=>K (.dat (.int k) (k.wrap (x * y)) [])
  | .rem=>if y=0 then none else K (.dat (.int k) (Int.tmod x y) [])
  | .quo=>if y=0 then none else K (.dat (.int k) (k.wrap (Int.tdiv x y)) [])
  | .eql=>K (.dat .bool (decide (x=y)) [])
  | .neq=>K (.dat .bool (!decide (x=y)) [])
  | .lss=>K (.dat .bool (decide (x<y)) [])
  | .leq=>K (.dat .bool (decide (x≤y)) [])
  | .gtr=>K (.dat .bool (decide (y<x)) [])
  | .geq=>K (.dat .bool (decide (y≤x)) [])
  | _=>none
def AH6 (op:BinOp) (a b:SV) (K:SV→Option R):Option R :=
  match a,b with
  | .dat (.int k) x _,.dat (.int k') y _=>if k=k' then Du op k x y K else none
  | _,_=>none
def ALf (τ:Ty) (neg:Bool) (a b:SV) (K:SV→Option R):Option R :=
  match a,b with
  | .dat σ x [],.dat ρ y []=>match Ji σ τ x,Ji ρ τ y,BGt τ with
    | some x,some y,true=>K (.dat .bool (match neg with | true => !(eqT τ x y) | false=>eqT τ x y) [])
    | _,_,_=>none
  | _,_=>none
def F4 (τ:Ty) (x:den τ) (ov:List (Z3×Option Nat)) (p:Z3) (K:SV→Option R):Option R :=
  match getP p τ x with
  | some d=>K (.dat d.τ d.x (Jn p ov))
  | none=>none
mutual
def Q9:SV→Nat
  | .dat τ _ _=>Zj τ
  | .agv vs=>K7 vs
  | _=>1
def K7:List SV→Nat
  | []=>0
  | v :: r=>Q9 v+K7 r
end
def H8 (n:Nat):SV→Bool
  | .junk=>false
  | .und=>false
  | .tup _=>false
  | v=>Nat.beq (Q9 v) n
def Tk:List Nat→List SV→Bool
  | [],[]=>true
  | n :: r,v :: s=>H8 n v && Tk r s
  | _,_=>false
def Bu (n:Nat):List SV→Bool
  | []=>true
  | v :: s=>H8 n v && Bu n s
def okL:LT→SV→Bool
  | .d τ,.dat σ _ _=>(match Kl σ τ with | some _=>true | none=>false)
  | .v true n,.agv vs=>Nat.beq (K7 vs) n
  | .v false n,.clo _ _=>Nat.beq n 1
  | .v false n,.nilfn=>Nat.beq n 1
  | _,_=>false
def AAl (ok:Bool) (v:SV) (b:Bool):SV:=match ok with | true=>.tup [v,.dat .bool b []] | false=>v
def Wb (n:Int):List Int→List SV→(SV→Bool→Option R)→Option R
  | k :: ks,v :: vs,K=>bif decide (n=k) then K v true else Wb n ks vs K
  | _,_,K=>K .nilfn false
def Lh (s:Nat→SV):Option Opd→Int→Option Int
  | none,d=>some d
  | some x,_=>match evO s x with | .dat (.int .i64) n _=>some n | _=>none
def Id (h:Nat→Obj) (a:SV) (K:SV→Option R):Option R :=
  match a with
  | .ref τ x=>K (.dat τ x [])
  | .refv v=>K v
  | .selfc f vs=>K (.clo f (.selfc f vs :: vs))
  | .glo k=>match Rw k with | some d=>K (.dat d.τ d.x []) | none=>none
  | .ptr g p=>match h g with
    | .box τ x ov=>F4 τ x ov p K
    | .fbox τ x ov=>F4 τ x ov p K
    | .boxv v=>(match getV v p with | some u=>K u | none=>none)
    | .fboxv v=>(match getV v p with | some u=>K u | none=>none)
    | _=>none
  | .elp g i p=>match h g with
    | .arr e l=>F4 e (List.getD l i (dft e)) [] p K
    | .frz e l=>F4 e (List.getD l i (dft e)) [] p K
    | _=>none
  | _=>none
def Ie (t:LT) (h:Nat→Obj) (a:SV) (K:SV→Option R):Option R :=
  Id h a fun v=>match okL t v with | true=>K v | false=>none
mutual
def Io:SV→SV→Bool
  | .agv vs,.agv us=>Ip vs us
  | .dat τ _ [],.dat σ _ []=>(match Kl τ σ with | some _=>true | none=>false)
  | .nilfn,.nilfn=>true
  | .nilfn,.clo _ _=>true
  | .clo _ _,.nilfn=>true
  | .clo _ _,.clo _ _=>true
  | _,_=>false
def Ip:List SV→List SV→Bool
  | [],[]=>true
  | v :: r,u :: s=>Io v u && Ip r s
  | _,_=>false
end
mutual
def B5:SV→Bool
  | .nilfn=>true
  | .agv vs=>ACw vs
  | .dat (.int _) x []=>decide (x=(0:Int))
  | .dat .bool x [] => !x
  | _=>false
def ACw:List SV→Bool
  | []=>true
  | v :: r=>B5 v && ACw r
end
def P3 (h:Nat→Obj) (a v:SV) (K:Eff→Option R):Option R :=
  match a with
  | .ptr g p=>match h g with
    | .box τ x ov=>(match v with
      | .dat σ y ov'=>match setP τ p x ⟨σ,y⟩ with
        | some x'=>K [(g,.box τ x' (N6 (Es p ov') (Pz p ov)))]
        | none=>none
      | _=>none)
    | .boxv u=>(match p,Io u v with | [],true=>K [(g,.boxv v)] | _,_=>none)
    | _=>none
  | .elp g i p=>match h g with
    | .arr e l=>(match v with
      | .dat σ y []=>match setP e p (List.getD l i (dft e)) ⟨σ,y⟩ with
        | some y'=>K [(g,.arr e (List.set l i y'))]
        | none=>none
      | _=>none)
    | _=>none
  | _=>none
def inB (n:Int) (m:Nat) (K:Nat→Option R):Option R:=if 0≤n∧n<(m:Int) then K n.toNat else none
def X6 (h:Nat→Obj) (t:FT) (j:Nat) (a:SV) (K:SV→Option R):Option R :=
  match t with
  | .d σ=>(match σ with
    | .st fs=>bif Nat.blt j fs.length then (match a with
      | .ptr g p=>(match h g with
        | .box τ x _=>fld τ x p σ (K (.ptr g (p ++ [j])))
        | .fbox τ x _=>fld τ x p σ (K (.ptr g (p ++ [j])))
        | _=>none)
      | .elp g i p=>(match h g with
        | .arr e _=>fld e (dft e) p σ (K (.elp g i (p ++ [j])))
        | .frz e _=>fld e (dft e) p σ (K (.elp g i (p ++ [j])))
        | _=>none)
      | .ref τ x=>(match Kl τ σ,getP [j] τ x with | some _,some d=>K (.ref d.τ d.x) | _,_=>none)
      | _=>none) else none
    | _=>none)
  | .v sizes=>(match a with
    | .refv (.agv vs)=>(match natsEq (sizesV vs) sizes,vs[j]? with | true,some v=>K (.refv v) | _,_=>none)
    | .ptr g p=>(match h g with
      | .boxv u=>fldV u p sizes j (K (.ptr g (p ++ [j])))
      | .fboxv u=>fldV u p sizes j (K (.ptr g (p ++ [j])))
      | _=>none)
    | _=>none)
where
  fld (τ:Ty) (x:den τ) (p:Z3) (σ:Ty) (r:Option R):Option R:=match getP p τ x with
    | some d=>(match Kl d.τ σ with | some _=>r | none=>none)
    | none=>none
  sizesV:List SV→List Nat
    | []=>[]
    | v :: r=>Q9 v :: sizesV r
  natsEq:List Nat→List Nat→Bool
    | [],[]=>true
    | a :: r,b :: s=>Nat.beq a b && natsEq r s
    | _,_=>false
  fldV (u:SV) (p:Z3) (sizes:List Nat) (j:Nat) (r:Option R):Option R:=match getV u p with
    | some (.agv vs)=>bif natsEq (sizesV vs) sizes && Nat.blt j sizes.length then r else none
    | _=>none
def G5 (t:IT) (h:Nat→Obj) (x i:SV) (K:SV→Option R):Option R :=
  match i with
  | .dat (.int _) n _=>(match t with
    | .sl σ=>(match x with
      | .dat (.sl e) l []=>(match Kl e σ with | some _=>inB n (List.length l) fun j=>K (.ref e (List.getD l j (dft e))) | none=>none)
      | .dat (.sl _) _ [([],some g)]=>(match h g with
        | .arr e l=>(match Kl e σ with | some _=>inB n l.length fun j=>K (.elp g j []) | none=>none)
        | .frz e l=>(match Kl e σ with | some _=>inB n l.length fun j=>K (.elp g j []) | none=>none)
        | _=>none)
      | _=>none)
    | .arr M σ=>(match x with
      | .ref (.arr N e) l=>(match Kl e σ,Nat.beq N M with | some _,true=>inB n N fun j=>K (.ref e (List.getD l j (dft e))) | _,_=>none)
      | .ptr g p=>(match h g with
        | .box τ x _=>arrAt τ x p M σ n fun j=>K (.ptr g (p ++ [j]))
        | .fbox τ x _=>arrAt τ x p M σ n fun j=>K (.ptr g (p ++ [j]))
        | _=>none)
      | _=>none)
    | .slv sz=>(match x with
      | .slv vs=>(match n with
        | .ofNat j=>(match vs[j]? with | some v=>(match Nat.beq (Q9 v) sz with | true=>K (.refv v) | false=>none) | none=>none)
        | _=>none)
      | _=>none))
  | _=>none
where
  arrAt (τ:Ty) (x:den τ) (p:Z3) (M:Nat) (σ:Ty) (n:Int) (K:Nat→Option R):Option R:=match getP p τ x with
    | some ⟨.arr N e,_⟩=>(match Kl e σ,Nat.beq N M with | some _,true=>inB n N K | _,_=>none)
    | _=>none
def ACa (h:Nat→Obj) (x:SV) (K:SV→Option R):Option R :=
  match x with
  | .dat (.sl _) l []=>K (.dat (.int .i64) ((List.length l:Nat):Int) [])
  | .dat (.sl _) _ [([],some g)]=>(match h g with
    | .arr _ l=>K (.dat (.int .i64) ((List.length l:Nat):Int) [])
    | .frz _ l=>K (.dat (.int .i64) ((List.length l:Nat):Int) [])
    | _=>none)
  | .slv vs=>K (.dat (.int .i64) ((List.length vs:Nat):Int) [])
  | _=>none
def Wx (τ:Ty) (s:Nat→SV):(x:den τ)→(ov:List (Z3×Option Nat))→List (Nat×Opd)→(SV→Option R)→Option R
  | x,ov,[],K=>K (.dat τ x ov)
  | x,ov,(j,o) :: r,K=>match evO s o with
    | .dat σ y ov'=>match setP τ [j] x ⟨σ,y⟩ with
      | some x'=>Wx τ s x' (Pz [j] ov ++ Es [j] ov') r K
      | none=>none
    | _=>none
def T5 (τ:Ty) (x:den τ) (h:Nat→Obj):List (Z3×Nat)→Option (List (Z3×Option Nat)×Eff)
  | []=>some ([],[])
  | (p,k) :: r=>match h k,getP p τ x,r.any (fun q=>Nat.beq q.2 k || Z0 q.1 p),T5 τ x h r with
    | .none,some ⟨.sl e,_⟩,false,some (ov,es)=>some ((p,some k) :: ov,(k,.arr e []) :: es)
    | _,_,_,_=>none
def U7 (e:Ty) (s:Nat→SV):List Opd→Option (List (den e))
  | []=>some []
  | o :: r=>match evO s o with
    | .dat σ y []=>match Ji σ e y with
      | some z=>match U7 e s r with
        | some zs=>some (z :: zs)
        | none=>none
      | none=>none
    | _=>none
end
mutual
def noSl:Ty→Bool
  | .sl _=>false
  | .arr _ e=>noSl e
  | .st fs=>AHn fs
  | _=>true
def AHn:List Ty→Bool
  | []=>true
  | t :: r=>noSl t && AHn r
end
def Lb:List Sh→Bool
  | []=>true
  | .d τ :: r=>noSl τ && Lb r
  | _ :: _=>false
def R5:List (Z3×Option Nat)→List Nat
  | []=>[]
  | (_,some g) :: r=>g :: R5 r
  | (_,none) :: r=>R5 r
def Br (g:Nat):Z3→SV→Option (FuncId×List SV)
  | [],.clo f (.ptr g' [] :: caps)=>match Nat.beq g g' with | true=>some (f,caps) | false=>none
  | _,_=>none
mutual
def Yv (h:Nat→Obj):Nat→SV→Option (SV×List Nat)
  | 0,_=>none
  | n+1,v=>match v with
    | .dat τ x ov=>match resolve h τ x ov with
      | some y=>some (.dat τ y [],R5 ov)
      | none=>none
    | .ptr g p=>match h g with
      | .box τ x ov=>match resolve h τ x ov with
        | some y=>match getP p τ y with
          | some d=>some (.ref d.τ d.x,g :: R5 ov)
          | none=>none
        | none=>none
      | .fbox τ x ov=>match resolve h τ x ov with
        | some y=>match getP p τ y with
          | some d=>some (.ref d.τ d.x,g :: R5 ov)
          | none=>none
        | none=>none
      | .boxv v=>match Br g p v with
        | some (f,caps)=>match Uv h n caps with
          | some (us,ids)=>some (.selfc f us,g :: ids)
          | none=>none
        | none=>match getV v p with
          | some v=>match Yv h n v with
            | some (u,ids)=>some (.refv u,g :: ids)
            | none=>none
          | none=>none
      | .fboxv v=>match Br g p v with
        | some (f,caps)=>match Uv h n caps with
          | some (us,ids)=>some (.selfc f us,g :: ids)
          | none=>none
        | none=>match getV v p with
          | some v=>match Yv h n v with
            | some (u,ids)=>some (.refv u,g :: ids)
            | none=>none
          | none=>none
      | _=>none
    | .ref τ x=>some (.ref τ x,[])
    | .refv v=>match Yv h n v with | some (u,ids)=>some (.refv u,ids) | none=>none
    | .selfc f caps=>match Uv h n caps with | some (us,ids)=>some (.selfc f us,ids) | none=>none
    | .clo f caps=>match Uv h n caps with | some (us,ids)=>some (.clo f us,ids) | none=>none
    | .agv vs=>match Uv h n vs with | some (us,ids)=>some (.agv us,ids) | none=>none
    | .slv vs=>match Uv h n vs with | some (us,ids)=>some (.slv us,ids) | none=>none
    | .nilfn=>some (.nilfn,[])
    | _=>none
def Uv (h:Nat→Obj):Nat→List SV→Option (List SV×List Nat)
  | 0,_=>none
  | _+1,[]=>some ([],[])
  | n+1,v :: vs=>match Yv h n v with
    | some (u,ids)=>match Uv h n vs with
      | some (us,ids')=>some (u :: us,ids ++ ids')
      | none=>none
    | none=>none
end
def Y5 (h:Nat→Obj):List Nat→Option Eff
  | []=>some []
  | g :: r=>match h g with
    | .arr e l=>match Y5 h r with | some es=>some ((g,.frz e l) :: es) | none=>none
    | .frz _ _=>Y5 h r
    | .box τ x ov=>match Y5 h r with | some es=>some ((g,.fbox τ x ov) :: es) | none=>none
    | .boxv v=>match Y5 h r with | some es=>some ((g,.fboxv v) :: es) | none=>none
    | .fbox .. => Y5 h r
    | .fboxv _=>Y5 h r
    | _=>none
abbrev Zy:=List (Nat×Z3)
def Zq (fr:Zy) (k:Nat×Z3):Bool:=fr.any fun f=>Nat.beq f.1 k.1 && Z0 f.2 k.2
def Zu (fr:Zy):List ((Nat×Z3)×Nat)→Bool
  | []=>true
  | (k,_) :: r=>Zq fr k && !(r.any fun q=>Nat.beq q.1.1 k.1 && Z0 q.1.2 k.2) && Zu fr r
def Tb:List SV→List ((Nat×Z3)×Nat)→Option (List SV×Eff)
  | vs,[]=>some (vs,[])
  | vs,((i,p),k) :: r=>match vs[i]? with
    | some (.dat τ x ov)=>match getP p τ x with
      | some ⟨.sl e,l⟩=>match setP τ p x ⟨.sl e,[]⟩ with
        | some x'=>match Tb (vs.set i (.dat τ x' (ov ++ [(p,some k)]))) r with
          | some (us,es)=>some (us,(k,.arr e l) :: es)
          | none=>none
        | none=>none
      | _=>none
    | _=>none
section
variable {R:Type}
def Oj:List SV→SV
  | [v]=>v
  | vs=>.tup vs
def Yk (κ ν:Ty) (i:den κ):List (den κ×den ν)→Option (den ν)
  | []=>none
  | (k,v) :: r=>if eqT κ i k then some v else Yk κ ν i r
def Gk (κ ν:Ty) (i:den κ) (x:den ν):List (den κ×den ν)→List (den κ×den ν)
  | []=>[(i,x)]
  | (k,v) :: r=>if eqT κ i k then (i,x) :: r else (k,v) :: Gk κ ν i x r
def Ep (κ ν:Ty) (i:den κ):List (den κ×den ν)→Nat
  | []=>0
  | (k,_) :: r=>if eqT κ i k then 0 else Ep κ ν i r+1
def Rj (κ ν:Ty) (i:den κ) (l:List (den κ×den ν)):List (den κ×den ν):=match Yk κ ν i l with
  | some _=>l
  | none=>l ++ [(i,dft ν)]
def O8 (κ ν:Ty):Nat→den ν→List (den κ×den ν)→List (den κ×den ν)
  | _,_,[]=>[]
  | 0,x,(k,_) :: r=>(k,x) :: r
  | n+1,x,e :: r=>e :: O8 κ ν n x r
def U9 (s:Nat→SV):List Opd→Option (IntKind×List Int)
  | []=>none
  | [o]=>match evO s o with | .dat (.int k) n _=>some (k,[n]) | _=>none
  | o :: r=>match evO s o with
    | .dat (.int k) n _=>match U9 s r with
      | some (k',l)=>if k=k' then some (k,n :: l) else none
      | none=>none
    | _=>none
abbrev Calls:=FuncId→List SV→(res:List Sh)→Option (Z9 res×Zy)
def Hc (h:Nat→Obj):List ((Nat×Z3)×Nat)→Bool
  | []=>true
  | (_,k) :: r=>(match h k with | .none=>true | _=>false) && Hc h r && !(r.any fun q=>Nat.beq q.2 k)
def Mg (h:Nat→Obj) (ids:List Nat) (res:List Sh) (x:Z9 res) (keep:List ((Nat×Z3)×Nat)) (K:SV→Eff→Option R):Option R :=
  match (match Lb res,keep with | true,[]=>some [] | _,_=>Y5 h ids) with
  | some es=>(match Tb (Kd res x) keep with
    | some (vs,es')=>K (Oj vs) (es ++ es')
    | none=>none)
  | none=>none
def Rt (cf:Calls) (h:Nat→Obj) (f:SV) (args:List SV) (res:List Sh) (keep:List ((Nat×Z3)×Nat)) (opt:Bool) (K:SV→Eff→Option R):Option R :=
  match f with
  | .clo fid caps=>match Uv h 60 (args ++ caps) with
    | some (as,ids)=>(cf fid as res).bind fun r =>
        bif Zu r.2 keep then (bif Hc h keep then Mg h ids res r.1 keep K else none)
        else (match opt with | true=>Mg h ids res r.1 [] K | false=>none)
    | none=>none
  | .refv _=>none
  | _=>none
def gop (cf:Calls) (s:Nat→SV) (h:Nat→Obj) (o:GOp) (K:SV→Eff→Option R):Option R :=
  match o with
  | .move x=>K (evO s x) []
  | .mknil k e=>match h k with
    | .none=>K (.dat (.sl e) [] [([],some k)]) [(k,.arr e [])]
    | _=>none
  | .pick c a b=>match evO s c with
    | .dat .bool t _=>(match evO s a,evO s b with
      | .dat .bool x _,.dat .bool y _=>K (.dat .bool (bif t then x else y) []) []
      | .dat .bool x _,.und=>bif t then K (.dat .bool x []) [] else none
      | .und,.dat .bool y _=>bif t then none else K (.dat .bool y []) []
      | _,_=>none)
    | _=>none
  | .newbox k τ nils=>match h k,T5 τ (dft τ) h nils,nils.any (fun q=>Nat.beq q.2 k) with
    | .none,some (ov,es),false=>K (.ptr k []) ((k,.box τ (dft τ) ov) :: es)
    | _,_,_=>none
  | .newboxv k z=>match h k,B5 z with
    | .none,true=>K (.ptr k []) [(k,.boxv z)]
    | _,_=>none
  | .box k x=>match h k with
    | .none=>(match evO s x with
      | .dat τ x ov=>K (.ptr k []) [(k,.box τ x ov)]
      | .clo f caps=>K (.ptr k []) [(k,.boxv (.clo f caps))]
      | _=>none)
    | _=>none
  | .load t a=>Ie t h (evO s a) fun v=>K v []
  | .store t a v=>(match okL t (evO s v) with | true=>P3 h (evO s a) (evO s v) fun e=>K .junk e | false=>none)
  | .bin op x y=>AH6 op (evO s x) (evO s y) fun v=>K v []
  | .eqs τ neg x y=>ALf τ neg (evO s x) (evO s y) fun v=>K v []
  | .not x=>match evO s x with | .dat .bool b _=>K (.dat .bool (!b) []) [] | _=>none
  | .neg x=>match evO s x with | .dat (.int k) n _=>K (.dat (.int k) (k.wrap (0 - n)) []) [] | _=>none
  | .conv k x=>match evO s x with | .dat (.int _) n _=>K (.dat (.int k) (k.wrap n) []) [] | _=>none
  | .fieldAddr t j a=>X6 h t j (evO s a) fun v=>K v []
  | .field τ j a=>match evO s a with
    | .dat σ x ov=>(match Kl σ τ with | some _=>F4 σ x ov [j] fun v=>K v [] | none=>none)
    | _=>none
  | .index t x i=>G5 t h (evO s x) (evO s i) fun v=>K v []
  | .len x=>ACa h (evO s x) fun v=>K v []
  | .lens x=>match evO s x with
    | .dat .str y _=>K (.dat (.int .i64) ((ByteArray.size y:Nat):Int) []) []
    | _=>none
  | .max xs=>match U9 s xs with | some (k,n :: l)=>K (.dat (.int k) (l.foldl (fun a b=>if a<b then b else a) n) []) [] | _=>none
  | .min xs=>match U9 s xs with | some (k,n :: l)=>K (.dat (.int k) (l.foldl (fun a b=>if b<a then b else a) n) []) [] | _=>none
  | .build τ parts nils=>match T5 τ (dft τ) h nils with
    | some (ov,es)=>Wx τ s (dft τ) ov parts fun v=>K v es
    | none=>none
  | .buildv sizes parts=>match Tk sizes (parts.map (evO s)) with | true=>K (.agv (parts.map (evO s))) [] | false=>none
  | .slice k e parts=>match h k,U7 e s parts with
    | .none,some l=>K (.dat (.sl e) [] [([],some k)]) [(k,.arr e l)]
    | _,_=>none
  | .slicev n parts=>match Bu n (parts.map (evO s)) with | true=>K (.slv (parts.map (evO s))) [] | false=>none
  | .make k e n=>match h k,evO s n with
    | .none,.dat (.int _) n _=>if 0≤n∧n≤1048576 then K (.dat (.sl e) [] [([],some k)]) [(k,.arr e (List.replicate n.toNat (dft e)))] else none
    | _,_=>none
  | .append k e x y=>match evO s x,evO s y,h k with
    | .dat (.sl e0) _ [([],some g)],.dat σ l' ov',.none=>(match h g with
      | .arr e1 l=>(match Kl e0 e,Kl e1 e,resolve h σ l' ov' with
        | some _,some _,some l'=>(match Ji σ (.sl e1) l' with
          | some l'=>if List.length l+List.length l'≤1048576 then K (.dat (.sl e) [] [([],some k)]) [(g,.dead),(k,.arr e1 (l ++ l'))] else none
          | none=>none)
        | _,_,_=>none)
      | _=>none)
    | _,_,_=>none
  | .extract x i=>match evO s x with | .tup vs=>(match vs[i]? with | some v=>K v [] | none=>none) | _=>none
  | .func f caps=>K (.clo f (caps.map (evO s))) []
  | .mkmap k κ ν=>match h k with
    | .none=>K (.ptr k []) [(k,.map κ ν [])]
    | _=>none
  | .lookup κ0 ν0 m i=>match evO s m,evO s i with
    | .ptr g [],.dat σ y []=>(match h g with
      | .map κ ν l=>(match Ji σ κ y,Kl κ κ0,Kl ν ν0 with
        | some i,some _,some _=>K (.dat ν ((Yk κ ν i l).getD (dft ν)) []) []
        | _,_,_=>none)
      | _=>none)
    | _,_=>none
  | .mapset κ0 ν0 m i v=>match evO s m,evO s i,evO s v with
    | .ptr g [],.dat σ y [],.dat ρ z []=>(match h g with
      | .map κ ν l=>(match Ji σ κ y,Ji ρ ν z,Kl κ κ0,Kl ν ν0 with
        | some i,some x,some _,some _=>K .junk [(g,.map κ ν (Gk κ ν i x l))]
        | _,_,_,_=>none)
      | _=>none)
    | _,_,_=>none
  | .mapent κ0 ν0 m i=>match evO s m,evO s i with
    | .ptr g [],.dat σ y []=>(match h g with
      | .map κ ν l=>(match Ji σ κ y,Kl κ κ0,Kl ν ν0 with
        | some i,some _,some _=>K (.tup [.dat ν ((Yk κ ν i l).getD (dft ν)) [],.dat (.int .i64) ((Ep κ ν i l:Nat):Int) []]) [(g,.map κ ν (Rj κ ν i l))]
        | _,_,_=>none)
      | _=>none)
    | _,_=>none
  | .mapst κ0 ν0 m e v=>match evO s m,evO s e,evO s v with
    | .ptr g [],.dat (.int .i64) n _,.dat ρ z []=>(match h g with
      | .map κ ν l=>(match Ji ρ ν z,Kl κ κ0,Kl ν ν0 with
        | some x,some _,some _=>if (0:Int)≤n∧n<((List.length l:Nat):Int) then K .junk [(g,.map κ ν (O8 κ ν (Int.toNat n) x l))] else none
        | _,_,_=>none)
      | _=>none)
    | _,_,_=>none
  | .lookv m i ok=>match evO s m,evO s i with
    | .fmap ks vs,.dat (.int .i64) n []=>Wb n ks vs fun v b=>K (AAl ok v b) []
    | _,_=>none
  | .slx e x lo hi=>match evO s x with
    | .dat (.sl _) _ [([],some g)]=>(match h g with
      | .frz e1 l=>(match Kl e1 e,Lh s lo 0,Lh s hi ((List.length l:Nat):Int) with
        | some _,some a,some b=>if 0≤a∧a≤b∧b≤((List.length l:Nat):Int) then K (.dat (.sl e1) ((l.take b.toNat).drop a.toNat) []) [] else none
        | _,_,_=>none)
      | _=>none)
    | _=>none
  | .call f args res keep opt=>Rt cf h (evO s f) (args.map (evO s)) res keep opt K
  | .fail=>none
  | .slicearr M σ x=>match evO s x with
    | .glo k=>AF2 (Rw k) M σ fun l=>K (.dat (.sl σ) l []) []
    | .ptr g []=>(match h g with
      | .box (.arr N e) l []=>(match Kl e σ,Nat.beq N M with | some _,true=>K (.dat (.sl e) l []) [(g,.dead)] | _,_=>none)
      | _=>none)
    | _=>none
structure Ln where
  d:Option Nat
  op:GOp
  g:Option (Nat×Bool):=none
  rd:List Nat:=[]
  wr:List Nat:=[]
inductive Cd where
  | skip
  | reg (draw:Bool) (l:List Ln)
  | tidy (kill:List Nat) (mv:List (Nat×Nat)) (drop:List Nat) (trunc:Option Nat)
  | frz (ids:List Nat)
  | seq (a b:Cd)
  | cond (c:Opd) (a b:Cd)
  | block (id:Nat) (a:Cd)
  | loop (a:Cd)
  | exit (id:Nat)
  | ret
inductive Ex where
  | norm | exit (id:Nat) | ret
def C3 (ids:List Nat) (h:Nat→Obj):Nat→Obj:=fun g=>match ids.any (Nat.beq g) with | true=>h g | false=>.hid
def Au (wr:List Nat):Eff→Bool
  | []=>true
  | (g,_) :: r=>wr.any (Nat.beq g) && Au wr r
def C9 (cf:Calls) (draw:Bool) (l:Ln) (s:Xn) (h:Y3) (K:Xn→Y3→Option R):Option R :=
  match draw with
  | false=>gop cf (Xv s) (Xp h) l.op fun v e=>K (Fz s l.d v) (Pf h e)
  | true=>gop cf (Xv s) (C3 (l.rd ++ l.wr) (Xp h)) l.op fun v e=>match Au l.wr e with
    | true=>K (Fz s l.d v) (Pf h e)
    | false=>none
def Yu (cf:Calls) (draw:Bool):List Ln→Xn→Y3→(Xn→Y3→Option R)→Option R
  | [],s,h,K=>K s h
  | l :: r,s,h,K=>match l.g with
    | none=>C9 cf draw l s h fun s h=>Yu cf draw r s h K
    | some (j,true)=>(match Xv s j with
      | .dat .bool b []=>bif b then C9 cf draw l (M5 s j (.dat .bool true [])) h fun s h=>Yu cf draw r s h K
          else Yu cf draw r (Fz (M5 s j (.dat .bool false [])) l.d .und) h K
      | .und=>Yu cf draw r (Fz s l.d .und) h K
      | _=>none)
    | some (j,false)=>(match Xv s j with
      | .dat .bool b []=>bif b then Yu cf draw r (Fz (M5 s j (.dat .bool true [])) l.d .und) h K
          else C9 cf draw l (M5 s j (.dat .bool false [])) h fun s h=>Yu cf draw r s h K
      | .und=>Yu cf draw r (Fz s l.d .und) h K
      | _=>none)
def Gu (p:Nat→Bool):List (Z3×Option Nat)→Bool
  | []=>true
  | (_,some g) :: r=>p g && Gu p r
  | (_,none) :: r=>Gu p r
mutual
def Ub (p:Nat→Bool):SV→Bool
  | .dat _ _ ov=>Gu p ov
  | .ptr g _=>p g
  | .ref _ _=>true
  | .refv v=>Ub p v
  | .selfc _ caps=>Of p caps
  | .glo _=>true
  | .elp g _ _=>p g
  | .clo _ caps=>Of p caps
  | .tup vs=>Of p vs
  | .slv vs=>Of p vs
  | .fmap _ vs=>Of p vs
  | .agv vs=>Of p vs
  | .nilfn=>true
  | .und=>true
  | .junk=>true
def Of (p:Nat→Bool):List SV→Bool
  | []=>true
  | v :: r=>Ub p v && Of p r
end
def AC2 (p:Nat→Bool):Obj→Bool
  | .box _ _ ov=>Gu p ov
  | .boxv v=>Ub p v
  | .fbox _ _ ov=>Gu p ov
  | .fboxv v=>Ub p v
  | _=>true
def Mf (p:Nat→Bool):Xn→Bool
  | []=>true
  | (_,v) :: r=>Ub p v && Mf p r
def Me (p:Nat→Bool):Y3→Bool
  | []=>true
  | o :: r=>AC2 p o && Me p r
def neI (n g:Nat):Bool:=match Nat.beq g n with | true=>false | false=>true
def ltI (n g:Nat):Bool:=Nat.blt g n
def Ah (a b g:Nat):Nat:=match Nat.beq g a with | true=>b | false=>g
def Ke (f:Nat→Nat):List (Z3×Option Nat)→List (Z3×Option Nat)
  | []=>[]
  | (q,some g) :: r=>(q,some (f g)) :: Ke f r
  | (q,none) :: r=>(q,none) :: Ke f r
mutual
def J0 (f:Nat→Nat):SV→SV
  | .dat τ x ov=>.dat τ x (Ke f ov)
  | .ptr g p=>.ptr (f g) p
  | .ref τ x=>.ref τ x
  | .refv v=>.refv (J0 f v)
  | .selfc c caps=>.selfc c (Vw f caps)
  | .glo k=>.glo k
  | .elp g i p=>.elp (f g) i p
  | .clo c caps=>.clo c (Vw f caps)
  | .tup vs=>.tup (Vw f vs)
  | .slv vs=>.slv (Vw f vs)
  | .fmap ks vs=>.fmap ks (Vw f vs)
  | .agv vs=>.agv (Vw f vs)
  | .nilfn=>.nilfn
  | .und=>.und
  | .junk=>.junk
def Vw (f:Nat→Nat):List SV→List SV
  | []=>[]
  | v :: r=>J0 f v :: Vw f r
end
def G6 (f:Nat→Nat):Obj→Obj
  | .box τ x ov=>.box τ x (Ke f ov)
  | .boxv v=>.boxv (J0 f v)
  | .fbox τ x ov=>.fbox τ x (Ke f ov)
  | .fboxv v=>.fboxv (J0 f v)
  | o=>o
def AEr (f:Nat→Nat):Xn→Xn
  | []=>[]
  | (i,v) :: r=>(i,J0 f v) :: AEr f r
def AMh (s:Xn) (h:Y3) (a b:Nat) (K:Xn→Y3→Option R):Option R :=
  match Xp h a with
  | .none=>K s h
  | _=>match Mf (neI b) s && Me (neI b) h && !(Nat.beq a b) with
  | true=>K (AEr (Ah a b) s) (Rm (Rm (h.map (G6 (Ah a b))) b (Xp (h.map (G6 (Ah a b))) a)) a .none)
  | false=>none
def M1:List (Nat×Nat)→Xn→Y3→(Xn→Y3→Option R)→Option R
  | [],s,h,K=>K s h
  | (a,b) :: r,s,h,K=>AMh s h a b fun s h=>M1 r s h K
def Ow:List Nat→Xn→Y3→(Xn→Y3→Option R)→Option R
  | [],s,h,K=>K s h
  | g :: r,s,h,K=>match Xp h g with
    | .none=>Ow r s h K
    | _=>match Mf (neI g) s && Me (neI g) h with
      | true=>Ow r s (Rm h g .none) K
      | false=>none
def F7 (n:Option Nat) (s:Xn) (h:Y3) (K:Xn→Y3→Option R):Option R :=
  match n with
  | none=>K s h
  | some n=>match Mf (ltI n) s && Me (ltI n) (h.take n) with
    | true=>K s (h.take n)
    | false=>none
abbrev Kt (R:Type):=Ex→Xn→Y3→Option R
def Mk (body:Kt R→Kt R→Xn→Y3→Option R):Nat→Kt R→Xn→Y3→Option R
  | 0,_,_,_=>none
  | m+1,K,s,h=>body (fun _ s h=>Mk body m K s h) K s h
def Jc (run:Cd→Kt R→Kt R→Xn→Y3→Option R) (b:Cd) (Kn K:Kt R):Kt R:=fun _ s h=>run b Kn K s h
def Jy (id:Nat) (Kn K:Kt R):Kt R:=fun ex s h=>match ex with
  | .exit i=>(match Nat.beq i id with | true=>Kn .norm s h | false=>K (.exit i) s h)
  | ex=>K ex s h
def run (cf:Calls) (lp:Nat):Cd→Kt R→Kt R→Xn→Y3→Option R
  | .skip,Kn,_,s,h=>Kn .norm s h
  | .reg draw l,Kn,_,s,h=>Yu cf draw l s h fun s h=>Kn .norm s h
  | .tidy kill mv dr tr,Kn,_,s,h=>M1 mv (Ia kill s) h fun s h=>Ow dr s h fun s h=>F7 tr s h fun s h=>Kn .norm s h
  | .frz ids,Kn,_,s,h=>match Y5 (Xp h) ids with
    | some es=>Kn .norm s (Pf h es)
    | none=>none
  | .seq a b,Kn,K,s,h=>run cf lp a (fun _ s h=>run cf lp b Kn K s h) K s h
  | .cond c a b,Kn,K,s,h=>match evO (Xv s) c with
    | .dat .bool t _=>bif t then run cf lp a Kn K s h else run cf lp b Kn K s h
    | _=>none
  | .block id a,Kn,K,s,h=>run cf lp a Kn (Jy id Kn K) s h
  | .loop a,_,K,s,h=>Mk (fun Kn K s h=>run cf lp a Kn K s h) lp K s h
  | .exit id,_,K,s,h=>K (.exit id) s h
  | .ret,_,K,s,h=>K .ret s h
inductive RV where
  | tmp (t:Nat)
  | cell (t:Nat) (l:LT)
structure Fn where
  np:Nat
  res:List RV
  body:Cd
def Rr:Nat→List SV→Xn
  | _,[]=>[]
  | i,v :: r=>(i,v) :: Rr (i+1) r
def V0:Z3→Ty→Bool
  | [],.sl _=>true
  | i :: p,.st fs=>(match fs[i]? with | some t=>V0 p t | none=>false)
  | _,_=>false
def Nd (τ:Ty):List (Z3×Option Nat)→Bool
  | []=>true
  | (q,_) :: r=>V0 q τ && !(r.any fun e=>Z0 e.1 q) && Nd τ r
def Hi (s:Nat→SV) (h:Nat→Obj):RV→Option (SV×List (Z3×Nat)×List Nat)
  | .tmp t=>resFin h (s t)
  | .cell t l=>Ie l h (s t) fun v=>resFin h v
where
  resFin (h:Nat→Obj) (v:SV):Option (SV×List (Z3×Nat)×List Nat):=match v with
    | .dat τ x ov=>match resolve h τ x ov with
      | some y=>(match Nd τ ov with | true=>some (.dat τ y [],ovOwn h ov,[]) | false=>some (.dat τ y [],[],R5 ov))
      | none=>none
    | v=>match Yv h 60 v with | some (u,ids)=>some (u,[],ids) | none=>none
  ovOwn (h:Nat→Obj):List (Z3×Option Nat)→List (Z3×Nat)
    | []=>[]
    | (q,some g) :: r=>(match h g with | .arr _ _=>(q,g) :: ovOwn h r | _=>ovOwn h r)
    | (_,none) :: r=>ovOwn h r
def resAll (s:Nat→SV) (h:Nat→Obj):Nat→List RV→Option (List SV×List ((Nat×Z3)×Nat)×List Nat)
  | _,[]=>some ([],[],[])
  | i,r :: rs=>match Hi s h r with
    | some (v,o,l)=>match resAll s h (i+1) rs with
      | some (vs,os,ls)=>some (v :: vs,o.map (fun q=>((i,q.1),q.2)) ++ os,l ++ ls)
      | none=>none
    | none=>none
def R3:List ((Nat×Z3)×Nat)→Bool
  | []=>true
  | (_,g) :: r => !(r.any fun q=>Nat.beq q.2 g) && R3 r
def Wo:List ((Nat×Z3)×Nat)→Bool
  | []=>true
  | (k,_) :: r => !(r.any fun q=>Nat.beq q.1.1 k.1 && Z0 q.1.2 k.2) && Wo r
def Pr (o:List ((Nat×Z3)×Nat)) (l:List Nat):Zy:=match R3 o && Wo o && o.all (fun q => !(l.any (Nat.beq q.2))) with
  | true=>o.map (·.1)
  | false=>[]
def Xd (fn:Fn) (res:List Sh):Kt (Z9 res×Zy):=fun ex s h =>
  match ex with
  | .exit _=>none
  | _=>match resAll (Xv s) (Xp h) 0 fn.res with
  | some (vs,o,l)=>match R6 res vs with
    | some x=>some (x,Pr o l)
    | none=>none
  | none=>none
def Kq (prog:FuncId→Option Fn) (sp:Calls):Nat→Calls
  | 0,_,_,_=>none
  | n+1,f,as,res=>match prog f with
    | some fn=>match Nat.beq as.length fn.np with
      | true=>run (Kq prog sp n) n fn.body (Xd fn res) (Xd fn res) (Rr 0 as) []
      | false=>none
    | none=>sp f as res
end
end Go.Proofs.YtpemapoblhleoaaGreatDoor.Ghost
namespace Go.Proofs.YtpemapoblhleoaaGreatDoor.Ghost
open Go
mutual
def Q8:Ty→Z3→Nat
  | .st fs,i :: p=>Gl fs i p
  | .arr _ e,i :: p=>i * Zj e+Q8 e p
  | _,_=>0
def Gl:List Ty→Nat→Z3→Nat
  | [],_,_=>0
  | t :: _,0,p=>Q8 t p
  | t :: r,n+1,p=>Zj t+Gl r n p
end
mutual
def okP:Ty→Z3→Prop
  | _,[]=>True
  | .st fs,i :: p=>okF fs i p
  | .arr n e,i :: p=>i<n∧okP e p
  | _,_=>False
def okF:List Ty→Nat→Z3→Prop
  | [],_,_=>False
  | t :: _,0,p=>okP t p
  | _ :: r,n+1,p=>okF r n p
end
structure Kz where
  b:Nat
  len:Nat
  cap:Nat
  es:Nat
  mp:Bool
  off:Z3→Nat
  ok:Z3→Prop
abbrev Xb:=Nat→Option Kz
abbrev Ov:=List (Z3×Option Nat)
def Wt (ρ:Xb) (g:Nat) (v:Value):Prop :=
  ∃ s a,ρ g=some s∧s.mp=false∧v=.slice a s.len s.cap∧(0<s.cap→a=some ⟨s.b,0,none⟩)
mutual
def Zm (A:Nat→Prop) (ρ:Xb) (w:World):(τ:Ty)→den τ→Ov→List Value→Prop
  | .bool,x,_,cs=>cs=[.bool x]
  | .int k,x,_,cs=>cs=[.int k x]
  | .str,x,_,cs=>cs=[.string x]
  | .sl e,l,ov,cs=>∃ a n c,cs=[.slice a n c]∧(∀ g,([],some g)∈ov→Wt ρ g (.slice a n c)) ∧
      ((∀ o,([],o) ∉ ov)→n=List.length l∧(0<n→∃ b o ds,a=some ⟨b,o,none⟩∧A b∧w.rangeAt b o ds∧ds.length=n * Zj e ∧
        ∀ i,i<n→Zm A ρ w e (List.getD l i (dft e)) [] ((ds.drop (i * Zj e)).take (Zj e))))
  | .arr n e,l,ov,cs=>List.length l=n∧cs.length=n * Zj e ∧
      ∀ i,i<n→Zm A ρ w e (List.getD l i (dft e)) (Jn [i] ov) ((cs.drop (i * Zj e)).take (Zj e))
  | .st fs,x,ov,cs=>Xl A ρ w fs 0 x ov cs
def Xl (A:Nat→Prop) (ρ:Xb) (w:World):(fs:List Ty)→Nat→K2 fs→Ov→List Value→Prop
  | [],_,_,_,cs=>cs=[]
  | t :: r,j,x,ov,cs=>Zm A ρ w t x.1 (Jn [j] ov) (cs.take (Zj t))∧Xl A ρ w r (j+1) x.2 ov (cs.drop (Zj t))
end
mutual
theorem Zm.length {A:Nat→Prop} {ρ:Xb} {w:World}:(τ:Ty)→{x:den τ}→{ov:Ov}→{cs:List Value}→Zm A ρ w τ x ov cs→cs.length=Zj τ
  | .bool,_,_,_,h=>by simp only [Zm] at h; subst h; rfl
  | .int _,_,_,_,h=>by simp only [Zm] at h; subst h; rfl
  | .str,_,_,_,h=>by simp only [Zm] at h; subst h; rfl
  | .sl _,_,_,_,h=>by simp only [Zm] at h; obtain ⟨_,_,_,rfl,_⟩:=h; rfl
  | .arr n e,_,_,_,h=>by simp only [Zm] at h; simpa only [Zj] using h.2.1
  | .st fs,_,_,_,h=>by simp only [Zm] at h; simpa only [Zj] using Xl.length fs h
theorem Xl.length {A:Nat→Prop} {ρ:Xb} {w:World}:(fs:List Ty)→{j:Nat}→{x:K2 fs}→{ov:Ov}→{cs:List Value}→Xl A ρ w fs j x ov cs→cs.length=Gm fs
  | [],_,_,_,_,h=>by simp only [Xl] at h; subst h; rfl
  | t :: r,_,_,_,_,h=>by
    simp only [Xl] at h
    have h1:=Zm.length t h.1
    have h2:=Xl.length r h.2
    simp only [List.length_take,List.length_drop] at h1 h2
    simp only [Gm]
    omega
end
mutual
theorem Zm.mono {A A':Nat→Prop} {ρ ρ':Xb} {w w':World} (hA:∀ b,A b→A' b) (hρ:∀ g s,ρ g=some s→ρ' g=some s)
    (hw:∀ b,A b→w'.heap[b]?=w.heap[b]?):(τ:Ty)→{x:den τ}→{ov:Ov}→{cs:List Value}→Zm A ρ w τ x ov cs→Zm A' ρ' w' τ x ov cs
  | .bool,_,_,_,h=>by simpa only [Zm] using h
  | .int _,_,_,_,h=>by simpa only [Zm] using h
  | .str,_,_,_,h=>by simpa only [Zm] using h
  | .sl e,_,_,_,h=>by
    simp only [Zm] at h ⊢
    obtain ⟨a,n,c,h1,h2,h3⟩:=h
    refine ⟨a,n,c,h1,fun g hg => ?_,fun hn=>⟨(h3 hn).1,fun hp => ?_⟩⟩
    · obtain ⟨s,ad,k1,k2⟩:=h2 g hg
      exact ⟨s,ad,hρ _ _ k1,k2⟩
    · obtain ⟨b,o,ds,k1,k2,k3,k4,k5⟩:=(h3 hn).2 hp
      refine ⟨b,o,ds,k1,hA b k2,fun j v hv => ?_,k4,fun i hi=>Zm.mono hA hρ hw e (k5 i hi)⟩
      have:=k3 j v hv
      unfold World.cell? at this ⊢
      simp only [hw b k2]
      exact this
  | .arr n e,_,_,_,h=>by
    simp only [Zm] at h ⊢
    exact ⟨h.1,h.2.1,fun i hi=>Zm.mono hA hρ hw e (h.2.2 i hi)⟩
  | .st fs,_,_,_,h=>by simp only [Zm] at h ⊢; exact Xl.mono hA hρ hw fs h
theorem Xl.mono {A A':Nat→Prop} {ρ ρ':Xb} {w w':World} (hA:∀ b,A b→A' b) (hρ:∀ g s,ρ g=some s→ρ' g=some s)
    (hw:∀ b,A b→w'.heap[b]?=w.heap[b]?):(fs:List Ty)→{j:Nat}→{x:K2 fs}→{ov:Ov}→{cs:List Value}→Xl A ρ w fs j x ov cs→Xl A' ρ' w' fs j x ov cs
  | [],_,_,_,_,h=>by simpa only [Xl] using h
  | t :: r,_,_,_,_,h=>by
    simp only [Xl] at h ⊢
    exact ⟨Zm.mono hA hρ hw t h.1,Xl.mono hA hρ hw r h.2⟩
end
theorem Y6 {p q:Z3} {o:Option Nat}:{ov:Ov}→((q,o)∈Jn p ov↔(p ++ q,o)∈ov):=by
  have Ui:∀ (p q r:Z3),Ht p q=some r↔q=p ++ r:=by
    intro p
    induction p with
    | nil=>intro q r; simp [Ht,eq_comm]
    | cons i p ih =>
      intro q r
      cases q with
      | nil=>simp [Ht]
      | cons j q =>
        simp only [Ht]
        cases hb:Nat.beq i j with
        | true =>
          have:=Nat.eq_of_beq_eq_true hb
          subst this
          simp [ih]
        | false =>
          have:i≠j:=fun e=>by subst e; simp [Nat.beq_refl] at hb
          simp [Ne.symm this]
  intro ov
  induction ov with
  | nil=>simp [Jn]
  | cons e r ih =>
    obtain ⟨q',o'⟩:=e
    simp only [Jn]
    cases hs:Ht p q' with
    | none =>
      simp only [List.mem_cons,Prod.mk.injEq]
      rw [ih]
      constructor
      · exact .inr
      · rintro (⟨h,_⟩ | h)
        · rw [(Ui p q' q).2 h.symm] at hs; cases hs
        · exact h
    | some q'' =>
      have:=(Ui p q' q'').1 hs
      subst this
      simp only [List.mem_cons,Prod.mk.injEq,ih,List.append_cancel_left_eq]
theorem Et {ov ov':Ov} (h:∀ e,e∈ov↔e∈ov') (p:Z3):∀ e,e∈Jn p ov↔e∈Jn p ov':=fun ⟨q,o⟩=>by
  rw [Y6,Y6]; exact h _
mutual
theorem Zm.ov {A:Nat→Prop} {ρ:Xb} {w:World}:(τ:Ty)→{x:den τ}→{ov ov':Ov}→{cs:List Value}→(∀ e,e∈ov↔e∈ov')→Zm A ρ w τ x ov cs→Zm A ρ w τ x ov' cs
  | .bool,_,_,_,_,_,h=>by simpa only [Zm] using h
  | .int _,_,_,_,_,_,h=>by simpa only [Zm] using h
  | .str,_,_,_,_,_,h=>by simpa only [Zm] using h
  | .sl e,_,_,_,_,he,h=>by
    simp only [Zm] at h ⊢
    obtain ⟨a,n,c,h1,h2,h3⟩:=h
    exact ⟨a,n,c,h1,fun g hg=>h2 g ((he _).2 hg),fun hn=>h3 (fun o ho=>hn o ((he _).1 ho))⟩
  | .arr n e,_,_,_,_,he,h=>by
    simp only [Zm] at h ⊢
    exact ⟨h.1,h.2.1,fun i hi=>Zm.ov e (Et he _) (h.2.2 i hi)⟩
  | .st fs,_,_,_,_,he,h=>by simp only [Zm] at h ⊢; exact Xl.ov fs he h
theorem Xl.ov {A:Nat→Prop} {ρ:Xb} {w:World}:(fs:List Ty)→{j:Nat}→{x:K2 fs}→{ov ov':Ov}→{cs:List Value}→(∀ e,e∈ov↔e∈ov')→Xl A ρ w fs j x ov cs→Xl A ρ w fs j x ov' cs
  | [],_,_,_,_,_,_,h=>by simpa only [Xl] using h
  | t :: r,_,_,_,_,_,he,h=>by
    simp only [Xl] at h ⊢
    exact ⟨Zm.ov t (Et he _) h.1,Xl.ov r he h.2⟩
end
theorem Eu (p q:Z3) (ov:Ov):∀ e,e∈Jn q (Jn p ov)↔e∈Jn (p ++ q) ov:=fun ⟨r,o⟩=>by
  rw [Y6,Y6,Y6,List.append_assoc]
def cut (cs:List Value) (o n:Nat):List Value:=(cs.drop o).take n
theorem Pm (cs:List Value) (o n o' n':Nat) (h:o'+n'≤n):cut (cut cs o n) o' n'=cut cs (o+o') n':=by
  unfold cut
  rw [List.drop_take,List.drop_drop,List.take_take,Nat.min_eq_left (by omega)]
theorem Ot (cs:List Value) (n:Nat):cut cs 0 n=cs.take n:=rfl
theorem AG6 (cs:List Value) (n:Nat) (h:cs.length=n):cut cs 0 n=cs:=by subst h; simp [cut]
mutual
theorem Py:(τ:Ty)→(p:Z3)→(x:den τ)→(d:Dyn)→okP τ p→getP p τ x=some d→Q8 τ p+Zj d.τ≤Zj τ
  | τ,[],x,d,_,h=>by
    have:d=⟨τ,x⟩:=by cases τ <;> simpa [getP,eq_comm] using h
    subst this
    cases τ <;> simp [Q8]
  | .st fs,i :: p,x,d,hk,h=>by
    simp only [Q8,Zj]
    simp only [okP] at hk
    simp only [getP] at h
    exact AHo fs i p x d hk h
  | .arr n e,i :: p,x,d,hk,h=>by
    simp only [Q8,Zj]
    simp only [okP] at hk
    simp only [getP] at h
    have h1:=Py e p _ d hk.2 h
    have:(i+1) * Zj e≤n * Zj e:=Nat.mul_le_mul_right _ hk.1
    rw [Nat.add_mul,Nat.one_mul] at this
    omega
  | .bool,_ :: _,_,_,hk,_=>by simp [okP] at hk
  | .int _,_ :: _,_,_,hk,_=>by simp [okP] at hk
  | .str,_ :: _,_,_,hk,_=>by simp [okP] at hk
  | .sl _,_ :: _,_,_,hk,_=>by simp [okP] at hk
theorem AHo:(fs:List Ty)→(i:Nat)→(p:Z3)→(x:K2 fs)→(d:Dyn)→okF fs i p →
    (match Gi fs i x with | some d=>getP p d.τ d.x | none=>none)=some d→Gl fs i p+Zj d.τ≤Gm fs
  | [],_,_,_,_,hk,_=>by simp [okF] at hk
  | t :: r,0,p,x,d,hk,h=>by
    simp only [okF] at hk
    simp only [Gi] at h
    have:=Py t p x.1 d hk h
    simp only [Gl,Gm]
    omega
  | t :: r,n+1,p,x,d,hk,h=>by
    simp only [okF] at hk
    simp only [Gi] at h
    have:=AHo r n p x.2 d hk h
    simp only [Gl,Gm]
    omega
end
mutual
theorem Zm.getP {A:Nat→Prop} {ρ:Xb} {w:World}:(τ:Ty)→(p:Z3)→{x:den τ}→{ov:Ov}→{cs:List Value}→{d:Dyn}→Zm A ρ w τ x ov cs→okP τ p →
    getP p τ x=some d→Zm A ρ w d.τ d.x (Jn p ov) (cut cs (Q8 τ p) (Zj d.τ))
  | τ,[],x,ov,cs,d,h,_,hg=>by
    have:d=⟨τ,x⟩:=by cases τ <;> simpa [Ghost.getP,eq_comm] using hg
    subst this
    have h0:Q8 τ []=0:=by cases τ <;> rfl
    rw [h0,AG6 _ _ (Zm.length τ h)]
    exact Zm.ov τ (fun ⟨q,o⟩=>by rw [Y6]; rfl) h
  | .st fs,i :: p,x,ov,cs,d,h,hk,hg=>by
    simp only [Zm] at h
    simp only [okP] at hk
    simp only [Ghost.getP] at hg
    simp only [Q8]
    have:=Xl.getP fs 0 i p h hk hg
    simpa only [Nat.zero_add] using this
  | .arr n e,i :: p,x,ov,cs,d,h,hk,hg=>by
    simp only [Zm] at h
    simp only [okP] at hk
    simp only [Ghost.getP] at hg
    simp only [Q8]
    have h1:=Zm.getP e p (h.2.2 i hk.1) hk.2 hg
    have h2:=Py e p _ d hk.2 hg
    rw [show (List.drop (i * Zj e) cs).take (Zj e)=cut cs (i * Zj e) (Zj e) from rfl,Pm _ _ _ _ _ h2] at h1
    exact Zm.ov d.τ (Eu [i] p ov) h1
  | .bool,_ :: _,_,_,_,_,_,hk,_=>by simp [okP] at hk
  | .int _,_ :: _,_,_,_,_,_,hk,_=>by simp [okP] at hk
  | .str,_ :: _,_,_,_,_,_,hk,_=>by simp [okP] at hk
  | .sl _,_ :: _,_,_,_,_,_,hk,_=>by simp [okP] at hk
theorem Xl.getP {A:Nat→Prop} {ρ:Xb} {w:World}:(fs:List Ty)→(j i:Nat)→(p:Z3)→{x:K2 fs}→{ov:Ov}→{cs:List Value}→{d:Dyn}→Xl A ρ w fs j x ov cs→okF fs i p →
    (match Gi fs i x with | some d=>Ghost.getP p d.τ d.x | none=>none)=some d→Zm A ρ w d.τ d.x (Jn ((j+i) :: p) ov) (cut cs (Gl fs i p) (Zj d.τ))
  | [],_,_,_,_,_,_,_,_,hk,_=>by simp [okF] at hk
  | t :: r,j,0,p,x,ov,cs,d,h,hk,hg=>by
    simp only [Xl] at h
    simp only [okF] at hk
    simp only [Gi] at hg
    simp only [Gl]
    have h1:=Zm.getP t p h.1 hk hg
    have h2:=Py t p _ d hk hg
    rw [← Ot,Pm _ _ _ _ _ h2,Nat.zero_add] at h1
    exact Zm.ov d.τ (Eu [j] p ov) h1
  | t :: r,j,n+1,p,x,ov,cs,d,h,hk,hg=>by
    simp only [Xl] at h
    simp only [okF] at hk
    simp only [Gi] at hg
    simp only [Gl]
    have h1:=Xl.getP r (j+1) n p h.2 hk hg
    have:cut (List.drop (Zj t) cs) (Gl r n p) (Zj d.τ)=cut cs (Zj t+Gl r n p) (Zj d.τ):=by
      unfold cut; rw [List.drop_drop]
    rw [this] at h1
    rw [show j+(n+1)=j+1+n by omega]
    exact h1
end
end Go.Proofs.YtpemapoblhleoaaGreatDoor.Ghost
namespace Go.Proofs.YtpemapoblhleoaaGreatDoor.Ghost
open Go
def Vm (cs:List Value) (o:Nat) (ds:List Value):List Value:=cs.take o ++ ds ++ cs.drop (o+ds.length)
theorem Jz {cs:List Value} {o:Nat} {ds:List Value} (h:o+ds.length≤cs.length):(Vm cs o ds).length=cs.length:=by
  simp only [Vm,List.length_append,List.length_take,List.length_drop]; omega
theorem Qr {cs:List Value} {o:Nat} {ds:List Value} (h:o+ds.length≤cs.length) (k:Nat) :
    (Vm cs o ds)[k]?=if k<o then cs[k]? else if k<o+ds.length then ds[k - o]? else cs[k]?:=by
  simp only [Vm,List.append_assoc]
  by_cases h1:k<o
  · rw [if_pos h1,List.getElem?_append_left (by simp; omega),List.getElem?_take_of_lt h1]
  · rw [if_neg h1,List.getElem?_append_right (by simp; omega)]
    have:(List.take o cs).length=o:=by simp; omega
    rw [this]
    by_cases h2:k<o+ds.length
    · rw [if_pos h2,List.getElem?_append_left (by omega)]
    · rw [if_neg h2,List.getElem?_append_right (by omega),List.getElem?_drop]
      congr 1; omega
theorem Qq {cs:List Value} {o n:Nat} (k:Nat):(cut cs o n)[k]?=if k<n then cs[o+k]? else none:=by
  unfold cut
  by_cases h:k<n
  · rw [if_pos h,List.getElem?_take_of_lt h,List.getElem?_drop]
  · rw [if_neg h,List.getElem?_eq_none]; simp; omega
theorem Pv {cs:List Value} {o n:Nat} (h:o+n≤cs.length):(cut cs o n).length=n:=by
  unfold cut; simp only [List.length_take,List.length_drop]; omega
theorem Ul {cs:List Value} {o n o':Nat} {ds:List Value} (h:o+n≤cs.length) (h':o'+ds.length≤n) :
    cut (Vm cs (o+o') ds) o n=Vm (cut cs o n) o' ds:=by
  refine List.ext_getElem? fun k => ?_
  have hl:(cut cs o n).length=n:=Pv h
  rw [Qq,Qr (by omega),Qr (by omega),Qq]
  by_cases h1:k<n
  · simp only [h1,if_true]
    by_cases h2:k<o'
    · rw [if_pos (by omega),if_pos h2]
    · rw [if_neg (by omega),if_neg h2]
      by_cases h3:k<o'+ds.length
      · rw [if_pos (by omega),if_pos h3]; congr 1; omega
      · rw [if_neg (by omega),if_neg h3]
  · simp only [h1,if_false]
    rw [if_neg (by omega),if_neg (by omega)]
theorem Hq {cs:List Value} {o n o':Nat} {ds:List Value} (h:o'+ds.length≤cs.length) (h':o+n≤o'∨o'+ds.length≤o) :
    cut (Vm cs o' ds) o n=cut cs o n:=by
  refine List.ext_getElem? fun k => ?_
  rw [Qq,Qq,Qr h]
  by_cases h1:k<n
  · simp only [h1,if_true]
    rcases h' with h' | h'
    · rw [if_pos (by omega)]
    · rw [if_neg (by omega),if_neg (by omega)]
  · simp only [h1,if_false]
theorem Tv (cs:List Value) (o:Nat):cs.drop o=cut cs o (cs.length - o):=by
  unfold cut; rw [List.take_of_length_le]; simp
def Ur (p:Z3) (ov ov' ov'':Ov):Prop:=∀ e,e∈ov''↔(e∈ov∧Ht p e.1=none)∨(∃ q,Ht p e.1=some q∧(q,e.2)∈ov')
theorem Ur.nil {ov ov' ov'':Ov} (h:Ur [] ov ov' ov''):∀ e,e∈ov'↔e∈ov'':=fun ⟨q,o⟩=>by
  rw [h (q,o)]; simp [Ht]
theorem Ur.same {i:Nat} {p:Z3} {ov ov' ov'':Ov} (h:Ur (i :: p) ov ov' ov''):Ur p (Jn [i] ov) ov' (Jn [i] ov''):=fun ⟨q,o⟩=>by
  rw [Y6,Y6,h ([i] ++ q,o)]; simp [Ht]
theorem Ur.other {i j:Nat} {p:Z3} {ov ov' ov'':Ov} (h:Ur (i :: p) ov ov' ov'') (hij:j≠i):∀ e,e∈Jn [j] ov↔e∈Jn [j] ov'':=fun ⟨q,o⟩=>by
  have:Nat.beq i j=false:=by
    cases hb:Nat.beq i j with
    | false=>rfl
    | true=>exact absurd (Nat.eq_of_beq_eq_true hb).symm hij
  rw [Y6,Y6,h ([j] ++ q,o)]; simp [Ht,this]
theorem AAt {e x:Z3×Option Nat}:{ov:Ov}→(x∈AEw e ov↔x=e∨x∈ov)
  | []=>by simp [AEw]
  | y :: r=>by
    simp only [AEw]
    split
    · simp
    · simp only [List.mem_cons,AAt (ov:=r)]
      constructor
      · rintro (h | h | h) <;> simp [h]
      · rintro (h | h | h) <;> simp [h]
theorem Na {x:Z3×Option Nat}:{a b:Ov}→(x∈N6 a b↔x∈a∨x∈b)
  | [],_=>by simp [N6]
  | e :: r,b=>by
    simp only [N6,Na (a:=r),AAt,List.mem_cons]
    constructor
    · rintro (h | h | h) <;> simp [h]
    · rintro ((h | h) | h) <;> simp [h]
theorem N3 {p:Z3} {e:Z3×Option Nat}:{ov:Ov}→(e∈Es p ov↔∃ q,e.1=p ++ q∧(q,e.2)∈ov)
  | []=>by simp [Es]
  | (q',o') :: r=>by
    obtain ⟨q,o⟩:=e
    simp only [Es,List.mem_cons,N3 (ov:=r),Prod.mk.injEq]
    constructor
    · rintro (⟨rfl,rfl⟩ | ⟨q'',h1,h2⟩)
      · exact ⟨q',rfl,.inl ⟨rfl,rfl⟩⟩
      · exact ⟨q'',h1,.inr h2⟩
    · rintro ⟨q'',h1,⟨rfl,rfl⟩ | h2⟩
      · exact .inl ⟨h1,rfl⟩
      · exact .inr ⟨q'',h1,h2⟩
theorem Te {p:Z3} {e:Z3×Option Nat}:{ov:Ov}→(e∈Pz p ov↔e∈ov∧Ht p e.1=none)
  | []=>by simp [Pz]
  | (q',o') :: r=>by
    obtain ⟨q,o⟩:=e
    simp only [Pz]
    cases hs:Ht p q' with
    | none =>
      simp only [List.mem_cons,Te (ov:=r),Prod.mk.injEq]
      constructor
      · rintro (⟨rfl,rfl⟩ | h)
        · exact ⟨.inl ⟨rfl,rfl⟩,hs⟩
        · exact ⟨.inr h.1,h.2⟩
      · rintro ⟨⟨rfl,rfl⟩ | h,h'⟩
        · exact .inl ⟨rfl,rfl⟩
        · exact .inr ⟨h,h'⟩
    | some q'' =>
      simp only [List.mem_cons,Te (ov:=r),Prod.mk.injEq]
      constructor
      · rintro ⟨h,h'⟩; exact ⟨.inr h,h'⟩
      · rintro ⟨⟨rfl,rfl⟩ | h,h'⟩
        · rw [hs] at h'; cases h'
        · exact ⟨h,h'⟩
theorem Ui {p q r:Z3}:Ht p q=some r↔q=p ++ r:=by
  induction p generalizing q r with
  | nil=>simp [Ht]
  | cons i p ih =>
    cases q with
    | nil=>simp [Ht]
    | cons j q =>
      simp only [Ht]
      cases hb:Nat.beq i j with
      | true =>
        have:=Nat.eq_of_beq_eq_true hb
        subst this
        simp [ih]
      | false =>
        have:i≠j:=fun e=>by subst e; simp [Nat.beq_refl] at hb
        simp [Ne.symm this]
theorem Ur.merge (p:Z3) (ov ov':Ov):Ur p ov ov' (N6 (Es p ov') (Pz p ov)):=fun e=>by
  rw [Na,N3,Te]
  constructor
  · rintro (⟨q,h1,h2⟩ | h)
    · exact .inr ⟨q,Ui.2 h1,h2⟩
    · exact .inl h
  · rintro (h | ⟨q,h1,h2⟩)
    · exact .inr h
    · exact .inl ⟨q,Ui.1 h1,h2⟩
theorem Ye {a b:Ty} {x:den a} {y:den b} (h:Ji a b x=some y):(⟨a,x⟩:Dyn)=⟨b,y⟩:=by
  unfold Ji at h
  split at h
  · rename_i e _
    subst e
    simp at h
    subst h; rfl
  · cases h
mutual
theorem Uh:(τ:Ty)→(p:Z3)→(x x':den τ)→(d:Dyn)→okP τ p→setP τ p x d=some x'→Q8 τ p+Zj d.τ≤Zj τ
  | τ,[],x,x',d,_,h=>by
    have hc:Ji d.τ τ d.x=some x':=by cases τ <;> simpa only [setP] using h
    have:=Ye hc
    obtain ⟨σ,y⟩:=d
    cases this
    show Q8 σ []+Zj σ≤Zj σ
    cases σ <;> simp [Q8]
  | .st fs,i :: p,x,x',d,hk,h=>by
    simp only [Q8,Zj]
    simp only [okP] at hk
    simp only [setP] at h
    exact F3 fs i p x x' d hk h
  | .arr n e,i :: p,x,x',d,hk,h=>by
    simp only [Q8,Zj]
    simp only [okP] at hk
    simp only [setP] at h
    cases hs:setP e p (List.getD x i (dft e)) d with
    | none=>rw [hs] at h; cases h
    | some y =>
      have h1:=Uh e p _ _ d hk.2 hs
      have:(i+1) * Zj e≤n * Zj e:=Nat.mul_le_mul_right _ hk.1
      rw [Nat.add_mul,Nat.one_mul] at this
      omega
  | .bool,_ :: _,_,_,_,hk,_=>by simp [okP] at hk
  | .int _,_ :: _,_,_,_,hk,_=>by simp [okP] at hk
  | .str,_ :: _,_,_,_,hk,_=>by simp [okP] at hk
  | .sl _,_ :: _,_,_,_,hk,_=>by simp [okP] at hk
theorem F3:(fs:List Ty)→(i:Nat)→(p:Z3)→(x x':K2 fs)→(d:Dyn)→okF fs i p →
    Ki fs i p x d=some x'→Gl fs i p+Zj d.τ≤Gm fs
  | [],_,_,_,_,_,hk,_=>by simp [okF] at hk
  | t :: r,0,p,x,x',d,hk,h=>by
    simp only [okF] at hk
    simp only [Ki] at h
    cases hs:setP t p x.1 d with
    | none=>rw [hs] at h; cases h
    | some y =>
      have:=Uh t p x.1 y d hk hs
      simp only [Gl,Gm]
      omega
  | t :: r,n+1,p,x,x',d,hk,h=>by
    simp only [okF] at hk
    simp only [Ki] at h
    cases hs:Ki r n p x.2 d with
    | none=>rw [hs] at h; cases h
    | some y =>
      have:=F3 r n p x.2 y d hk hs
      simp only [Gl,Gm]
      omega
end
mutual
theorem Zm.setP {A:Nat→Prop} {ρ:Xb} {w:World}:(τ:Ty)→(p:Z3)→{x x':den τ}→{ov ov' ov'':Ov}→{cs ds:List Value}→{d:Dyn} →
    Zm A ρ w τ x ov cs→okP τ p→setP τ p x d=some x'→Zm A ρ w d.τ d.x ov' ds→Ur p ov ov' ov''→Zm A ρ w τ x' ov'' (Vm cs (Q8 τ p) ds)
  | τ,[],x,x',ov,ov',ov'',cs,ds,d,h,_,hs,hd,hv=>by
    have hc:Ji d.τ τ d.x=some x':=by cases τ <;> simpa only [Ghost.setP] using hs
    have:=Ye hc
    obtain ⟨σ,y⟩:=d
    cases this
    have h0:Q8 σ []=0:=by cases σ <;> rfl
    have h1:=Zm.length σ h
    have h2:ds.length=Zj σ:=Zm.length σ hd
    have:Vm cs (Q8 σ []) ds=ds:=by
      unfold Vm
      rw [h0,Nat.zero_add,List.drop_eq_nil_of_le (by omega)]; simp
    rw [this]
    exact Zm.ov σ hv.nil hd
  | .st fs,i :: p,x,x',ov,ov',ov'',cs,ds,d,h,hk,hs,hd,hv=>by
    simp only [Zm] at h ⊢
    simp only [okP] at hk
    simp only [Ghost.setP] at hs
    simp only [Q8]
    exact Xl.setP fs 0 i p h hk hs hd (by rw [Nat.zero_add]; exact hv)
  | .arr n e,i :: p,x,x',ov,ov',ov'',cs,ds,d,h,hk,hs,hd,hv=>by
    simp only [Zm] at h ⊢
    simp only [okP] at hk
    simp only [Ghost.setP] at hs
    simp only [Q8]
    cases hy:Ghost.setP e p (List.getD x i (dft e)) d with
    | none=>rw [hy] at hs; cases hs
    | some y =>
      rw [hy] at hs
      simp only [Option.some.injEq] at hs
      subst hs
      have h2:=Zm.length d.τ hd
      have h3:=Uh e p _ _ d hk.2 hy
      have h4:(i+1) * Zj e≤n * Zj e:=Nat.mul_le_mul_right _ hk.1
      rw [Nat.add_mul,Nat.one_mul] at h4
      refine ⟨by simpa using h.1,by rw [Jz (by omega)]; exact h.2.1,fun k hkn => ?_⟩
      have h4':(k+1) * Zj e≤n * Zj e:=Nat.mul_le_mul_right _ hkn
      rw [Nat.add_mul,Nat.one_mul] at h4'
      have hget:=h.2.2 k hkn
      change Zm A ρ w e _ _ (cut cs (k * Zj e) (Zj e)) at hget
      change Zm A ρ w e _ _ (cut _ (k * Zj e) (Zj e))
      by_cases hki:k=i
      · subst hki
        have h5:=Zm.setP e p hget hk.2 hy hd hv.same
        rw [Ul (by omega) (by omega)]
        have:List.getD (List.set x k y) k (dft e)=y:=by
          have hl:k<List.length x:=by omega
          rw [List.getD_eq_getElem?_getD,List.getElem?_set_self hl]; rfl
        rw [this]; exact h5
      · have:List.getD (List.set x i y) k (dft e)=List.getD x k (dft e):=by
          rw [List.getD_eq_getElem?_getD,List.getElem?_set_ne (Ne.symm hki),← List.getD_eq_getElem?_getD]
        rw [this,Hq (by omega) ?_]
        · exact Zm.ov e (hv.other hki) hget
        · rcases Nat.lt_or_gt_of_ne hki with hlt | hgt
          · left
            have:(k+1) * Zj e≤i * Zj e:=Nat.mul_le_mul_right _ hlt
            rw [Nat.add_mul,Nat.one_mul] at this
            omega
          · right
            have:(i+1) * Zj e≤k * Zj e:=Nat.mul_le_mul_right _ hgt
            rw [Nat.add_mul,Nat.one_mul] at this
            omega
  | .bool,_ :: _,_,_,_,_,_,_,_,_,_,hk,_,_,_=>by simp [okP] at hk
  | .int _,_ :: _,_,_,_,_,_,_,_,_,_,hk,_,_,_=>by simp [okP] at hk
  | .str,_ :: _,_,_,_,_,_,_,_,_,_,hk,_,_,_=>by simp [okP] at hk
  | .sl _,_ :: _,_,_,_,_,_,_,_,_,_,hk,_,_,_=>by simp [okP] at hk
theorem Xl.setP {A:Nat→Prop} {ρ:Xb} {w:World}:(fs:List Ty)→(j i:Nat)→(p:Z3)→{x x':K2 fs}→{ov ov' ov'':Ov}→{cs ds:List Value}→{d:Dyn} →
    Xl A ρ w fs j x ov cs→okF fs i p→Ki fs i p x d=some x'→Zm A ρ w d.τ d.x ov' ds→Ur ((j+i) :: p) ov ov' ov''→Xl A ρ w fs j x' ov'' (Vm cs (Gl fs i p) ds)
  | [],_,_,_,_,_,_,_,_,_,_,_,_,hk,_,_,_=>by simp [okF] at hk
  | t :: r,j,0,p,x,x',ov,ov',ov'',cs,ds,d,h,hk,hs,hd,hv=>by
    have hlen:=Xl.length (t :: r) h
    simp only [Gm] at hlen
    simp only [Xl] at h ⊢
    simp only [okF] at hk
    simp only [Ki] at hs
    simp only [Gl]
    cases hy:Ghost.setP t p x.1 d with
    | none=>rw [hy] at hs; cases hs
    | some y =>
      rw [hy] at hs
      simp only [Option.some.injEq] at hs
      subst hs
      have h2:=Zm.length d.τ hd
      have h3:=Uh t p _ _ d hk hy
      have h5:=Zm.setP t p h.1 hk hy hd hv.same
      refine ⟨?_,?_⟩
      · have:=Ul (cs:=cs) (o:=0) (n:=Zj t) (o':=Q8 t p) (ds:=ds) (by omega) (by omega)
        rw [Nat.zero_add] at this
        rw [← Ot,this]; exact h5
      · have:(Vm cs (Q8 t p) ds).drop (Zj t)=cs.drop (Zj t):=by
          rw [Tv,Jz (by omega),Hq (by omega) (by omega),← Tv]
        rw [this]
        exact Xl.skip r (j+1) (i:=j) (by omega) h.2 hv
  | t :: r,j,n+1,p,x,x',ov,ov',ov'',cs,ds,d,h,hk,hs,hd,hv=>by
    have hlen:=Xl.length (t :: r) h
    simp only [Gm] at hlen
    simp only [Xl] at h ⊢
    simp only [okF] at hk
    simp only [Ki] at hs
    simp only [Gl]
    cases hy:Ghost.Ki r n p x.2 d with
    | none=>rw [hy] at hs; cases hs
    | some y =>
      rw [hy] at hs
      simp only [Option.some.injEq] at hs
      subst hs
      have h2:=Zm.length d.τ hd
      have h3:=F3 r n p _ _ d hk hy
      have h5:=Xl.setP r (j+1) n p h.2 hk hy hd (by rw [show j+1+n=j+(n+1) by omega]; exact hv)
      refine ⟨?_,?_⟩
      · rw [← Ot,Hq (by omega) (by omega),Ot]
        exact Zm.ov t (hv.other (by omega)) h.1
      · have:(Vm cs (Zj t+Gl r n p) ds).drop (Zj t)=Vm (cs.drop (Zj t)) (Gl r n p) ds:=by
          rw [Tv,Jz (by omega),Ul (by omega) (by omega),← Tv]
        rw [this]; exact h5
theorem Xl.skip {A:Nat→Prop} {ρ:Xb} {w:World}:(fs:List Ty)→(j:Nat)→{i:Nat}→{p:Z3}→{x:K2 fs}→{ov ov' ov'':Ov}→{cs:List Value}→i<j →
    Xl A ρ w fs j x ov cs→Ur (i :: p) ov ov' ov''→Xl A ρ w fs j x ov'' cs
  | [],_,_,_,_,_,_,_,_,_,h,_=>by simpa only [Xl] using h
  | t :: r,j,i,p,x,ov,ov',ov'',cs,hij,h,hv=>by
    simp only [Xl] at h ⊢
    exact ⟨Zm.ov t (hv.other (by omega)) h.1,Xl.skip r (j+1) (by omega) h.2 hv⟩
end
end Go.Proofs.YtpemapoblhleoaaGreatDoor.Ghost
namespace Go.Proofs.YtpemapoblhleoaaGreatDoor.Ghost
open Go
def Gz:Ty→Bool
  | .st _=>true
  | .arr _ _=>true
  | _=>false
def mkV (τ:Ty) (cs:List Value):Value:=match Gz τ with
  | true=>.agg cs.toArray
  | false=>cs.headD undef
theorem Js {A:Nat→Prop} {ρ:Xb} {w:World} {τ:Ty} {x:den τ} {ov:Ov} {cs:List Value} (h:Zm A ρ w τ x ov cs):(mkV τ cs).cells.toList=cs:=by
  cases τ with
  | bool=>simp only [Zm] at h; subst h; rfl
  | int k=>simp only [Zm] at h; subst h; rfl
  | str=>simp only [Zm] at h; subst h; rfl
  | sl e=>simp only [Zm] at h; obtain ⟨_,_,_,rfl,_⟩:=h; rfl
  | arr n e=>rfl
  | st fs=>rfl
def Ym:List Value→List Value
  | []=>[]
  | v :: r=>v.cells.toList ++ Ym r
def U8:List SV→List Value→Prop
  | u :: r,v :: s=>v.cells.size=Q9 u∧(∀ c∈v.cells.toList,c.oneCell'=true)∧U8 r s
  | _,_=>True
mutual
def Zl (A:Nat→Prop) (ρ:Xb) (w:World):SV→Value→Prop
  | .dat τ x ov,v=>∃ cs,Zm A ρ w τ x ov cs∧v=mkV τ cs
  | .ptr g p,v=>∃ s,ρ g=some s∧s.ok p∧v=(match s.mp with | true=>.map (some s.b) | false=>.pointer (some ⟨s.b,s.off p,none⟩))
  | .ref τ x,v=>∃ b o cs,v=.pointer (some ⟨b,o,none⟩)∧A b∧w.rangeAt b o cs∧Zm A ρ w τ x [] cs
  | .refv u,v=>∃ b o u',v=.pointer (some ⟨b,o,none⟩)∧A b∧w.rangeAt b o (Value.cells u').toList∧Zl A ρ w u u'
  | .selfc f us,v=>∃ b o,v=.pointer (some ⟨b,o,none⟩)∧A b∧∃ vs:List Value,w.rangeAt b o [.func (.func f) #[] (v :: vs).toArray]∧Zp A ρ w us vs
  | .glo k,v=>v=.pointer (some ⟨k,0,none⟩)
  | .elp g i p,v=>∃ s,ρ g=some s∧s.mp=false∧i<s.len∧s.ok p∧v=.pointer (some ⟨s.b,i * s.es+s.off p,none⟩)
  | .clo f caps,v=>∃ vs:List Value,v=.func (.func f) #[] vs.toArray∧Zp A ρ w caps vs
  | .tup us,v=>∃ vs:List Value,v=.tuple vs.toArray∧Zp A ρ w us vs
  | .slv us,v=>∃ a n c,v=.slice a n c∧n=us.length∧∃ vs,Zp A ρ w us vs∧U8 us vs∧(∃ z,∀ u,u∈us→Q9 u=z)∧(0<n→∃ b o,a=some ⟨b,o,none⟩∧A b∧w.rangeAt b o (Ym vs))
  | .fmap ks us,v=>∃ b es c,v=.map (some b)∧A b∧w.heap[b]?=some (.map es c)∧es.toList.map (·.key)=ks.map (Value.int .i64)∧Zp A ρ w us (es.toList.map (·.val))
  | .agv us,v=>∃ vs,v=.agg (Ym vs).toArray∧Zp A ρ w us vs∧U8 us vs
  | .nilfn,v=>v=.nilFunc
  | .und,v=>v=undef
  | .junk,_=>True
def Zp (A:Nat→Prop) (ρ:Xb) (w:World):List SV→List Value→Prop
  | [],vs=>vs=[]
  | u :: r,vs=>∃ v vs',vs=v :: vs'∧Zl A ρ w u v∧Zp A ρ w r vs'
end
theorem X5 {w w':World} {b o:Nat} {cs:List Value} (h:w'.heap[b]?=w.heap[b]?) (hr:w.rangeAt b o cs):w'.rangeAt b o cs:=fun j v hv=>by
  have:=hr j v hv
  unfold World.cell? at this ⊢
  simp only [h]
  exact this
theorem Uz {w w':World} {b o n:Nat} (h:w'.heap[b]?=w.heap[b]?) (hr:w.there b o n):w'.there b o n:=fun j hj=>by
  have:=hr j hj
  unfold World.cell? World.frozen? at this ⊢
  simp only [h]
  exact this
mutual
theorem Zl.mono {A A':Nat→Prop} {ρ ρ':Xb} {w w':World} (hA:∀ b,A b→A' b) (hρ:∀ g s,ρ g=some s→ρ' g=some s)
    (hw:∀ b,A b→w'.heap[b]?=w.heap[b]?):(u:SV)→{v:Value}→Zl A ρ w u v→Zl A' ρ' w' u v
  | .dat τ x ov,_,h=>by
    simp only [Zl] at h ⊢
    obtain ⟨cs,h1,h2⟩:=h
    exact ⟨cs,Zm.mono hA hρ hw τ h1,h2⟩
  | .ptr g p,_,h=>by
    simp only [Zl] at h ⊢
    obtain ⟨s,h1,h2⟩:=h
    exact ⟨s,hρ _ _ h1,h2⟩
  | .ref τ x,_,h=>by
    simp only [Zl] at h ⊢
    obtain ⟨b,o,cs,h1,h2,h3,h4⟩:=h
    exact ⟨b,o,cs,h1,hA b h2,X5 (hw b h2) h3,Zm.mono hA hρ hw τ h4⟩
  | .refv u,_,h=>by
    simp only [Zl] at h ⊢
    obtain ⟨b,o,u',h1,h2,h3,h4⟩:=h
    exact ⟨b,o,u',h1,hA b h2,X5 (hw b h2) h3,Zl.mono hA hρ hw u h4⟩
  | .selfc f us,_,h=>by
    simp only [Zl] at h ⊢
    obtain ⟨b,o,h1,h2,vs,h3,h4⟩:=h
    exact ⟨b,o,h1,hA b h2,vs,X5 (hw b h2) h3,Zp.mono hA hρ hw us h4⟩
  | .elp g i p,_,h=>by
    simp only [Zl] at h ⊢
    obtain ⟨s,h1,h2⟩:=h
    exact ⟨s,hρ _ _ h1,h2⟩
  | .clo f caps,_,h=>by
    simp only [Zl] at h ⊢
    obtain ⟨vs,h1,h2⟩:=h
    exact ⟨vs,h1,Zp.mono hA hρ hw caps h2⟩
  | .tup us,_,h=>by
    simp only [Zl] at h ⊢
    obtain ⟨vs,h1,h2⟩:=h
    exact ⟨vs,h1,Zp.mono hA hρ hw us h2⟩
  | .slv us,_,h=>by
    simp only [Zl] at h ⊢
    obtain ⟨a,n,c,h1,h2,vs,h3,h5,h6,h4⟩:=h
    refine ⟨a,n,c,h1,h2,vs,Zp.mono hA hρ hw us h3,h5,h6,fun hn => ?_⟩
    obtain ⟨b,o,k1,k2,k3⟩:=h4 hn
    exact ⟨b,o,k1,hA b k2,X5 (hw b k2) k3⟩
  | .fmap ks us,_,h=>by
    simp only [Zl] at h ⊢
    obtain ⟨b,es,c,h1,h2,h3,h4,h5⟩:=h
    exact ⟨b,es,c,h1,hA b h2,by rw [hw b h2]; exact h3,h4,Zp.mono hA hρ hw us h5⟩
  | .agv us,_,h=>by
    simp only [Zl] at h ⊢
    obtain ⟨vs,h1,h2,h3⟩:=h
    exact ⟨vs,h1,Zp.mono hA hρ hw us h2,h3⟩
  | .nilfn,_,h=>by simpa only [Zl] using h
  | .glo _,_,h=>by simpa only [Zl] using h
  | .und,_,h=>by simpa only [Zl] using h
  | .junk,_,_=>by simp only [Zl]
theorem Zp.mono {A A':Nat→Prop} {ρ ρ':Xb} {w w':World} (hA:∀ b,A b→A' b) (hρ:∀ g s,ρ g=some s→ρ' g=some s)
    (hw:∀ b,A b→w'.heap[b]?=w.heap[b]?):(us:List SV)→{vs:List Value}→Zp A ρ w us vs→Zp A' ρ' w' us vs
  | [],_,h=>by simpa only [Zp] using h
  | u :: r,_,h=>by
    simp only [Zp] at h ⊢
    obtain ⟨v,vs',h1,h2,h3⟩:=h
    exact ⟨v,vs',h1,Zl.mono hA hρ hw u h2,Zp.mono hA hρ hw r h3⟩
end
mutual
theorem Rb (f:Nat→Nat):(u:SV)→Q9 (J0 f u)=Q9 u
  | .dat _ _ _=>rfl
  | .ptr _ _=>rfl
  | .ref _ _=>rfl
  | .refv _=>rfl
  | .selfc _ _=>rfl
  | .glo _=>rfl
  | .elp _ _ _=>rfl
  | .clo _ _=>rfl
  | .tup _=>rfl
  | .slv _=>rfl
  | .fmap _ _=>rfl
  | .agv us=>by simp only [J0,Q9]; exact Iu f us
  | .nilfn=>rfl
  | .und=>rfl
  | .junk=>rfl
theorem Iu (f:Nat→Nat):(us:List SV)→K7 (Vw f us)=K7 us
  | []=>rfl
  | u :: r=>by simp only [Vw,K7,Rb f u,Iu f r]
end
theorem F5 (f:Nat→Nat):(us:List SV)→(vs:List Value)→U8 us vs→U8 (Vw f us) vs
  | [],_,_=>by simp [Vw,U8]
  | _ :: _,[],_=>by simp [Vw,U8]
  | u :: r,v :: s,h=>by
    simp only [U8,Vw] at h ⊢
    exact ⟨by rw [Rb]; exact h.1,h.2.1,F5 f r s h.2.2⟩
theorem AAs {f:Nat→Nat} {u:SV}:{us:List SV}→u∈Vw f us→∃ u',u'∈us∧u=J0 f u'
  | v :: r,h=>by
    simp only [Vw,List.mem_cons] at h
    rcases h with rfl | h
    · exact ⟨v,by simp,rfl⟩
    · obtain ⟨u',h1,h2⟩:=AAs h
      exact ⟨u',by simp [h1],h2⟩
theorem Fo {f:Nat→Nat} {q:Z3} {g:Nat}:{ov:Ov}→((q,some g)∈Ke f ov↔∃ g',(q,some g')∈ov∧g=f g')
  | []=>by simp [Ke]
  | (q',some g') :: r=>by
    simp only [Ke,List.mem_cons,Fo (ov:=r),Prod.mk.injEq,Option.some.injEq]
    constructor
    · rintro (⟨rfl,rfl⟩ | ⟨g'',h1,h2⟩)
      · exact ⟨g',.inl ⟨rfl,rfl⟩,rfl⟩
      · exact ⟨g'',.inr h1,h2⟩
    · rintro ⟨g'',⟨rfl,rfl⟩ | h1,h2⟩
      · exact .inl ⟨rfl,h2⟩
      · exact .inr ⟨g'',h1,h2⟩
  | (q',none) :: r=>by simp [Ke,Fo (ov:=r)]
theorem Rk {f:Nat→Nat} {q:Z3}:{ov:Ov}→((∃ o,(q,o)∈Ke f ov)↔∃ o,(q,o)∈ov)
  | []=>by simp [Ke]
  | (q',some g') :: r=>by
    have:=Rk (f:=f) (q:=q) (ov:=r)
    simp only [Ke,List.mem_cons,Prod.mk.injEq,exists_or,this]
    constructor
    · rintro (⟨o,rfl,_⟩ | h)
      · exact .inl ⟨some g',rfl,rfl⟩
      · exact .inr h
    · rintro (⟨o,rfl,_⟩ | h)
      · exact .inl ⟨some (f g'),rfl,rfl⟩
      · exact .inr h
  | (q',none) :: r=>by
    have:=Rk (f:=f) (q:=q) (ov:=r)
    simp only [Ke,List.mem_cons,Prod.mk.injEq,exists_or,this]
theorem T3 (f:Nat→Nat) (p:Z3):(ov:Ov)→Jn p (Ke f ov)=Ke f (Jn p ov)
  | []=>rfl
  | (q,some g) :: r=>by
    simp only [Ke,Jn]
    cases Ht p q <;> simp [Ke,T3 f p r]
  | (q,none) :: r=>by
    simp only [Ke,Jn]
    cases Ht p q <;> simp [Ke,T3 f p r]
theorem Fw {p:Nat→Bool} {q:Z3} {g:Nat}:{ov:Ov}→Gu p ov=true→(q,some g)∈ov→p g=true
  | (q',some g') :: r,h,hm=>by
    simp only [Gu,Bool.and_eq_true] at h
    simp only [List.mem_cons,Prod.mk.injEq,Option.some.injEq] at hm
    rcases hm with ⟨rfl,rfl⟩ | hm
    · exact h.1
    · exact Fw h.2 hm
  | (q',none) :: r,h,hm=>by
    simp only [Gu] at h
    simp only [List.mem_cons,Prod.mk.injEq,reduceCtorEq,and_false,false_or] at hm
    exact Fw h hm
theorem Wq {p:Nat→Bool} {q:Z3}:{ov:Ov}→Gu p ov=true→Gu p (Jn q ov)=true
  | [],_=>rfl
  | (q',some g') :: r,h=>by
    simp only [Gu,Bool.and_eq_true] at h
    simp only [Jn]
    cases Ht q q'
    · exact Wq h.2
    · simp only [Gu,Bool.and_eq_true]; exact ⟨h.1,Wq h.2⟩
  | (q',none) :: r,h=>by
    simp only [Gu] at h
    simp only [Jn]
    cases Ht q q'
    · exact Wq h
    · simp only [Gu]; exact Wq h
section names
variable {A:Nat→Prop} {ρ ρ':Xb} {w:World} {p:Nat→Bool} {f:Nat→Nat} 
mutual
theorem Zm.names (hf:∀ g s,p g=true→ρ g=some s→ρ' (f g)=some s):(τ:Ty)→{x:den τ}→{ov:Ov}→{cs:List Value}→Gu p ov=true→Zm A ρ w τ x ov cs→Zm A ρ' w τ x (Ke f ov) cs
  | .bool,_,_,_,_,h=>by simpa only [Zm] using h
  | .int _,_,_,_,_,h=>by simpa only [Zm] using h
  | .str,_,_,_,_,h=>by simpa only [Zm] using h
  | .sl e,_,ov,_,hp,h=>by
    simp only [Zm] at h ⊢
    obtain ⟨a,n,c,h1,h2,h3⟩:=h
    refine ⟨a,n,c,h1,fun g hg => ?_,fun hn => ?_⟩
    · obtain ⟨g',k1,rfl⟩:=Fo.1 hg
      obtain ⟨s,ad,m1,m2⟩:=h2 g' k1
      exact ⟨s,ad,hf _ _ (Fw hp k1) m1,m2⟩
    · have hn':∀ o,([],o) ∉ ov:=fun o ho=>by
        obtain ⟨o',ho'⟩:=Rk (f:=f).2 ⟨o,ho⟩
        exact hn o' ho'
      refine ⟨(h3 hn').1,fun hpos => ?_⟩
      obtain ⟨b,o,ds,k1,k2,k3,k4,k5⟩:=(h3 hn').2 hpos
      exact ⟨b,o,ds,k1,k2,k3,k4,fun i hi=>by simpa only [Ke] using Zm.names hf e (ov:=[]) rfl (k5 i hi)⟩
  | .arr n e,_,ov,_,hp,h=>by
    simp only [Zm] at h ⊢
    exact ⟨h.1,h.2.1,fun i hi=>by rw [T3]; exact Zm.names hf e (Wq hp) (h.2.2 i hi)⟩
  | .st fs,_,_,_,hp,h=>by simp only [Zm] at h ⊢; exact Xl.names hf fs hp h
theorem Xl.names (hf:∀ g s,p g=true→ρ g=some s→ρ' (f g)=some s):(fs:List Ty)→{j:Nat}→{x:K2 fs}→{ov:Ov}→{cs:List Value}→Gu p ov=true→Xl A ρ w fs j x ov cs→Xl A ρ' w fs j x (Ke f ov) cs
  | [],_,_,_,_,_,h=>by simpa only [Xl] using h
  | t :: r,_,_,_,_,hp,h=>by
    simp only [Xl] at h ⊢
    exact ⟨by rw [T3]; exact Zm.names hf t (Wq hp) h.1,Xl.names hf r hp h.2⟩
end
mutual
theorem Zl.names (hf:∀ g s,p g=true→ρ g=some s→ρ' (f g)=some s):(u:SV)→{v:Value}→Ub p u=true→Zl A ρ w u v→Zl A ρ' w (J0 f u) v
  | .dat τ x ov,_,hp,h=>by
    simp only [Zl,J0,Ub] at h hp ⊢
    obtain ⟨cs,h1,h2⟩:=h
    exact ⟨cs,Zm.names hf τ hp h1,h2⟩
  | .ptr g q,_,hp,h=>by
    simp only [Zl,J0,Ub] at h hp ⊢
    obtain ⟨s,h1,h2⟩:=h
    exact ⟨s,hf _ _ hp h1,h2⟩
  | .ref τ x,_,hp,h=>by
    simp only [Zl,J0,Ub] at h hp ⊢
    obtain ⟨b,o,cs,h1,h2,h3,h4⟩:=h
    exact ⟨b,o,cs,h1,h2,h3,by simpa only [Ke] using Zm.names hf τ (ov:=[]) rfl h4⟩
  | .refv u,_,hp,h=>by
    simp only [Zl,J0,Ub] at h hp ⊢
    obtain ⟨b,o,u',h1,h2,h3,h4⟩:=h
    exact ⟨b,o,u',h1,h2,h3,Zl.names hf u hp h4⟩
  | .selfc c us,_,hp,h=>by
    simp only [Zl,J0,Ub] at h hp ⊢
    obtain ⟨b,o,h1,h2,vs,h3,h4⟩:=h
    exact ⟨b,o,h1,h2,vs,h3,Zp.names hf us hp h4⟩
  | .elp g i q,_,hp,h=>by
    simp only [Zl,J0,Ub] at h hp ⊢
    obtain ⟨s,h1,h2⟩:=h
    exact ⟨s,hf _ _ hp h1,h2⟩
  | .clo c caps,_,hp,h=>by
    simp only [Zl,J0,Ub] at h hp ⊢
    obtain ⟨vs,h1,h2⟩:=h
    exact ⟨vs,h1,Zp.names hf caps hp h2⟩
  | .tup us,_,hp,h=>by
    simp only [Zl,J0,Ub] at h hp ⊢
    obtain ⟨vs,h1,h2⟩:=h
    exact ⟨vs,h1,Zp.names hf us hp h2⟩
  | .slv us,_,hp,h=>by
    simp only [Zl,J0,Ub] at h hp ⊢
    obtain ⟨a,n,c,h1,h2,vs,h3,h5,⟨z,h6⟩,h4⟩:=h
    have:∀ l:List SV,(Vw f l).length=l.length:=fun l=>by induction l <;> simp_all [Vw]
    refine ⟨a,n,c,h1,by rw [this]; exact h2,vs,Zp.names hf us hp h3,F5 f us vs h5,⟨z,fun u hu => ?_⟩,h4⟩
    obtain ⟨u',k1,rfl⟩:=AAs hu
    rw [Rb]; exact h6 u' k1
  | .fmap ks us,_,hp,h=>by
    simp only [Zl,J0,Ub] at h hp ⊢
    obtain ⟨b,es,c,h1,h2,h3,h4,h5⟩:=h
    exact ⟨b,es,c,h1,h2,h3,h4,Zp.names hf us hp h5⟩
  | .agv us,_,hp,h=>by
    simp only [Zl,J0,Ub] at h hp ⊢
    obtain ⟨vs,h1,h2,h3⟩:=h
    exact ⟨vs,h1,Zp.names hf us hp h2,F5 f us vs h3⟩
  | .nilfn,_,_,h=>by simpa only [Zl,J0] using h
  | .glo _,_,_,h=>by simpa only [Zl,J0] using h
  | .und,_,_,h=>by simpa only [Zl,J0] using h
  | .junk,_,_,_=>by simp only [Zl,J0]
theorem Zp.names (hf:∀ g s,p g=true→ρ g=some s→ρ' (f g)=some s):(us:List SV)→{vs:List Value}→Of p us=true→Zp A ρ w us vs→Zp A ρ' w (Vw f us) vs
  | [],_,_,h=>by simpa only [Zp,Vw] using h
  | u :: r,_,hp,h=>by
    simp only [Zp,Vw,Of,Bool.and_eq_true] at h hp ⊢
    obtain ⟨v,vs',h1,h2,h3⟩:=h
    exact ⟨v,vs',h1,Zl.names hf u hp.1 h2,Zp.names hf r hp.2 h3⟩
end
end names
theorem Ih:(ov:Ov)→Ke id ov=ov
  | []=>rfl
  | (_,some _) :: r=>by simp [Ke,Ih r]
  | (_,none) :: r=>by simp [Ke,Ih r]
mutual
theorem Ig:(u:SV)→J0 id u=u
  | .dat _ _ ov=>by simp [J0,Ih ov]
  | .ptr _ _=>rfl
  | .ref _ _=>rfl
  | .refv u=>by simp [J0,Ig u]
  | .selfc _ us=>by simp [J0,Tc us]
  | .glo _=>rfl
  | .elp _ _ _=>rfl
  | .clo _ us=>by simp [J0,Tc us]
  | .tup us=>by simp [J0,Tc us]
  | .slv us=>by simp [J0,Tc us]
  | .fmap _ us=>by simp [J0,Tc us]
  | .agv us=>by simp [J0,Tc us]
  | .nilfn=>rfl
  | .und=>rfl
  | .junk=>rfl
theorem Tc:(us:List SV)→Vw id us=us
  | []=>rfl
  | u :: r=>by simp [Vw,Ig u,Tc r]
end
end Go.Proofs.YtpemapoblhleoaaGreatDoor.Ghost
namespace Go.Proofs.YtpemapoblhleoaaGreatDoor.Ghost
open Go
mutual
def U6:SV→Z3→Nat
  | .agv vs,i :: p=>Gt vs i p
  | _,_=>0
def Gt:List SV→Nat→Z3→Nat
  | [],_,_=>0
  | v :: _,0,p=>U6 v p
  | v :: r,n+1,p=>Q9 v+Gt r n p
end
theorem Uo:(us:List SV)→(vs:List Value)→{A:Nat→Prop}→{ρ:Xb}→{w:World}→Zp A ρ w us vs→U8 us vs→(Ym vs).length=K7 us
  | [],_,_,_,_,h,_=>by simp only [Zp] at h; subst h; rfl
  | u :: r,_,_,_,_,h,hs=>by
    simp only [Zp] at h
    obtain ⟨v,vs',rfl,_,h3⟩:=h
    simp only [U8] at hs
    simp only [Ym,List.length_append,K7,Array.length_toList,hs.1,Uo r vs' h3 hs.2.2]
theorem Zl.size {A:Nat→Prop} {ρ:Xb} {w:World}:{u:SV}→{v:Value}→u≠.junk→Zl A ρ w u v→v.cells.size=Q9 u
  | .dat τ x ov,v,_,h=>by
    simp only [Zl] at h
    obtain ⟨cs,h1,rfl⟩:=h
    rw [← Array.length_toList,Js h1,Zm.length τ h1]; rfl
  | .ptr g p,v,_,h=>by
    simp only [Zl] at h
    obtain ⟨s,_,_,rfl⟩:=h
    cases s.mp <;> rfl
  | .ref τ x,v,_,h=>by
    simp only [Zl] at h
    obtain ⟨_,_,_,rfl,_⟩:=h; rfl
  | .refv u,v,_,h=>by
    simp only [Zl] at h
    obtain ⟨_,_,_,rfl,_⟩:=h; rfl
  | .selfc f us,v,_,h=>by
    simp only [Zl] at h
    obtain ⟨_,_,rfl,_⟩:=h; rfl
  | .glo k,v,_,h=>by
    simp only [Zl] at h
    subst h; rfl
  | .elp g i p,v,_,h=>by
    simp only [Zl] at h
    obtain ⟨_,_,_,_,_,rfl⟩:=h; rfl
  | .clo f caps,v,_,h=>by
    simp only [Zl] at h
    obtain ⟨_,rfl,_⟩:=h; rfl
  | .tup us,v,_,h=>by
    simp only [Zl] at h
    obtain ⟨_,rfl,_⟩:=h; rfl
  | .slv us,v,_,h=>by
    simp only [Zl] at h
    obtain ⟨_,_,_,rfl,_⟩:=h; rfl
  | .fmap ks us,v,_,h=>by
    simp only [Zl] at h
    obtain ⟨_,_,_,rfl,_⟩:=h; rfl
  | .agv us,v,_,h=>by
    simp only [Zl] at h
    obtain ⟨vs,rfl,h2,h3⟩:=h
    show (Ym vs).toArray.size=_
    rw [List.size_toArray,Uo us vs h2 h3]; rfl
  | .nilfn,v,_,h=>by simp only [Zl] at h; subst h; rfl
  | .und,v,_,h=>by simp only [Zl] at h; subst h; rfl
  | .junk,_,h,_=>absurd rfl h
mutual
theorem Zm.one {A:Nat→Prop} {ρ:Xb} {w:World}:(τ:Ty)→{x:den τ}→{ov:Ov}→{cs:List Value}→Zm A ρ w τ x ov cs→∀ c∈cs,c.oneCell'=true
  | .bool,_,_,_,h=>by simp only [Zm] at h; subst h; simp [Value.oneCell']
  | .int _,_,_,_,h=>by simp only [Zm] at h; subst h; simp [Value.oneCell']
  | .str,_,_,_,h=>by simp only [Zm] at h; subst h; simp [Value.oneCell']
  | .sl _,_,_,_,h=>by simp only [Zm] at h; obtain ⟨_,_,_,rfl,_⟩:=h; simp [Value.oneCell']
  | .arr n e,_,_,cs,h=>by
    simp only [Zm] at h
    intro c hc
    obtain ⟨k,hk,rfl⟩:=List.getElem_of_mem hc
    have hk':k<n * Zj e:=by rw [← h.2.1]; exact hk
    have hpos:0<Zj e:=by
      rcases Nat.eq_zero_or_pos (Zj e) with h0 | h0
      · rw [h0] at hk'; simp at hk'
      · exact h0
    have hi:k / Zj e<n:=Nat.div_lt_of_lt_mul (by rw [Nat.mul_comm]; exact hk')
    refine Zm.one e (h.2.2 _ hi) _ ?_
    have hm:=Nat.div_add_mod k (Zj e)
    have hlt:=Nat.mod_lt k hpos
    rw [List.mem_iff_getElem?]
    refine ⟨k % Zj e,?_⟩
    rw [List.getElem?_take_of_lt hlt,List.getElem?_drop,Nat.mul_comm,hm,List.getElem?_eq_getElem hk]
  | .st fs,_,_,_,h=>by simp only [Zm] at h; exact Xl.one fs h
theorem Xl.one {A:Nat→Prop} {ρ:Xb} {w:World}:(fs:List Ty)→{j:Nat}→{x:K2 fs}→{ov:Ov}→{cs:List Value}→Xl A ρ w fs j x ov cs→∀ c∈cs,c.oneCell'=true
  | [],_,_,_,_,h=>by simp only [Xl] at h; subst h; simp
  | t :: r,_,_,_,cs,h=>by
    simp only [Xl] at h
    intro c hc
    rw [← List.take_append_drop (Zj t) cs,List.mem_append] at hc
    rcases hc with hc | hc
    · exact Zm.one t h.1 c hc
    · exact Xl.one r h.2 c hc
end
theorem C8:(us:List SV)→(vs:List Value)→us.length=vs.length→U8 us vs→∀ c∈Ym vs,c.oneCell'=true
  | [],[],_,_=>by simp [Ym]
  | u :: r,v :: s,hl,h=>by
    simp only [U8] at h
    intro c hc
    simp only [Ym,List.mem_append] at hc
    rcases hc with hc | hc
    · exact h.2.1 c hc
    · exact C8 r s (by simpa using hl) h.2.2 c hc
theorem Zp.len {A:Nat→Prop} {ρ:Xb} {w:World}:(us:List SV)→{vs:List Value}→Zp A ρ w us vs→us.length=vs.length
  | [],_,h=>by simp only [Zp] at h; subst h; rfl
  | u :: r,_,h=>by
    simp only [Zp] at h
    obtain ⟨v,vs',rfl,_,h3⟩:=h
    simp [Zp.len r h3]
theorem Zl.one {A:Nat→Prop} {ρ:Xb} {w:World} {u:SV} {v:Value} {n:Nat} (hs:H8 n u=true) (h:Zl A ρ w u v):∀ c∈v.cells.toList,c.oneCell'=true:=by
  cases u with
  | dat τ x ov =>
    simp only [Zl] at h
    obtain ⟨cs,h1,rfl⟩:=h
    rw [Js h1]
    exact Zm.one τ h1
  | ptr g p =>
    simp only [Zl] at h
    obtain ⟨s,_,_,rfl⟩:=h
    cases s.mp <;> simp [Value.cells,Value.oneCell']
  | ref τ x =>
    simp only [Zl] at h
    obtain ⟨_,_,_,rfl,_⟩:=h; simp [Value.cells,Value.oneCell']
  | refv u =>
    simp only [Zl] at h
    obtain ⟨_,_,_,rfl,_⟩:=h; simp [Value.cells,Value.oneCell']
  | selfc f us =>
    simp only [Zl] at h
    obtain ⟨_,_,rfl,_⟩:=h; simp [Value.cells,Value.oneCell']
  | glo k =>
    simp only [Zl] at h
    subst h; simp [Value.cells,Value.oneCell']
  | elp g i p =>
    simp only [Zl] at h
    obtain ⟨_,_,_,_,_,rfl⟩:=h; simp [Value.cells,Value.oneCell']
  | clo f caps =>
    simp only [Zl] at h
    obtain ⟨_,rfl,_⟩:=h; simp [Value.cells,Value.oneCell']
  | slv us =>
    simp only [Zl] at h
    obtain ⟨_,_,_,rfl,_⟩:=h; simp [Value.cells,Value.oneCell']
  | fmap ks us =>
    simp only [Zl] at h
    obtain ⟨_,_,_,rfl,_⟩:=h; simp [Value.cells,Value.oneCell']
  | agv us =>
    simp only [Zl] at h
    obtain ⟨vs,rfl,h2,h3⟩:=h
    exact C8 us vs (Zp.len us h2) h3
  | nilfn=>simp only [Zl] at h; subst h; simp [Value.cells,Value.oneCell']
  | und=>simp [H8] at hs
  | tup us=>simp [H8] at hs
  | junk=>simp [H8] at hs
mutual
theorem Zl.getV {A:Nat→Prop} {ρ:Xb} {w:World}:(u:SV)→{p:Z3}→{v:Value}→{x:SV}→Zl A ρ w u v→Ghost.getV u p=some x →
    ∃ v',Zl A ρ w x v'∧v'.cells.toList=cut v.cells.toList (U6 u p) v'.cells.size
  | u,[],v,x,h,hg=>by
    have:u=x:=by cases u <;> simpa [Ghost.getV] using hg
    subst this
    refine ⟨v,h,?_⟩
    have:U6 u []=0:=by cases u <;> rfl
    rw [this,AG6]; simp
  | .agv us,i :: p,v,x,h,hg=>by
    simp only [Zl] at h
    obtain ⟨vs,rfl,h2,h3⟩:=h
    simp only [Ghost.getV] at hg
    obtain ⟨v',k1,k2⟩:=Zp.getV us h2 h3 hg
    exact ⟨v',k1,by simpa only [U6,Value.cells] using k2⟩
  | .dat _ _ _,_ :: _,_,_,_,hg=>by simp [Ghost.getV] at hg
  | .ptr _ _,_ :: _,_,_,_,hg=>by simp [Ghost.getV] at hg
  | .ref _ _,_ :: _,_,_,_,hg=>by simp [Ghost.getV] at hg
  | .refv _,_ :: _,_,_,_,hg=>by simp [Ghost.getV] at hg
  | .selfc _ _,_ :: _,_,_,_,hg=>by simp [Ghost.getV] at hg
  | .glo _,_ :: _,_,_,_,hg=>by simp [Ghost.getV] at hg
  | .elp _ _ _,_ :: _,_,_,_,hg=>by simp [Ghost.getV] at hg
  | .clo _ _,_ :: _,_,_,_,hg=>by simp [Ghost.getV] at hg
  | .tup _,_ :: _,_,_,_,hg=>by simp [Ghost.getV] at hg
  | .slv _,_ :: _,_,_,_,hg=>by simp [Ghost.getV] at hg
  | .fmap _ _,_ :: _,_,_,_,hg=>by simp [Ghost.getV] at hg
  | .nilfn,_ :: _,_,_,_,hg=>by simp [Ghost.getV] at hg
  | .und,_ :: _,_,_,_,hg=>by simp [Ghost.getV] at hg
  | .junk,_ :: _,_,_,_,hg=>by simp [Ghost.getV] at hg
theorem Zp.getV {A:Nat→Prop} {ρ:Xb} {w:World}:(us:List SV)→{i:Nat}→{p:Z3}→{vs:List Value}→{x:SV}→Zp A ρ w us vs→U8 us vs→getV.getVL us i p=some x →
    ∃ v',Zl A ρ w x v'∧v'.cells.toList=cut (Ym vs) (Gt us i p) v'.cells.size
  | [],_,_,_,_,_,_,hg=>by simp [getV.getVL] at hg
  | u :: r,0,p,vs,x,h,hs,hg=>by
    simp only [Zp] at h
    obtain ⟨v,vs',rfl,h2,h3⟩:=h
    simp only [getV.getVL] at hg
    obtain ⟨v',k1,k2⟩:=Zl.getV u h2 hg
    refine ⟨v',k1,?_⟩
    rw [k2]
    simp only [Gt,Ym]
    refine List.ext_getElem? fun k => ?_
    have hl:v'.cells.size≤v.cells.size - U6 u p∨True:=.inr trivial
    have k3:(cut v.cells.toList (U6 u p) v'.cells.size).length=v'.cells.size:=by rw [← k2]; simp
    have k4:v'.cells.size=min v'.cells.size (v.cells.size - U6 u p):=by
      unfold cut at k3
      simp only [List.length_take,List.length_drop,Array.length_toList] at k3
      omega
    rw [Qq,Qq]
    by_cases hk:k<v'.cells.size
    · simp only [hk,if_true]
      rw [List.getElem?_append_left (by simp only [Array.length_toList]; omega)]
    · simp only [hk,if_false]
  | u :: r,n+1,p,vs,x,h,hs,hg=>by
    simp only [Zp] at h
    obtain ⟨v,vs',rfl,h2,h3⟩:=h
    simp only [U8] at hs
    simp only [getV.getVL] at hg
    obtain ⟨v',k1,k2⟩:=Zp.getV r h3 hs.2.2 hg
    refine ⟨v',k1,?_⟩
    rw [k2]
    simp only [Gt,Ym]
    unfold cut
    have hz:List.drop v.cells.size v.cells.toList=[]:=List.drop_eq_nil_of_le (by simp)
    rw [← hs.1,← List.drop_drop,List.drop_append_of_le_length (by simp),hz,List.nil_append]
end
def Xm (A:Nat→Prop) (ρ:Xb) (w:World) (κ ν:Ty):List (den κ×den ν)→List MapEntry→Prop
  | [],es=>es=[]
  | (k,v) :: r,es=>∃ e es',es=e :: es'∧(∃ cs,Zm A ρ w κ k [] cs∧e.key=mkV κ cs)∧(∃ cs,Zm A ρ w ν v [] cs∧e.val=mkV ν cs)∧Xm A ρ w κ ν r es'
def ABa (es:List MapEntry) (c:Nat):Prop:=c=es.length∧∀ (j:Nat) e,es[j]?=some e→e.born=j
def Own (own:Nat→Option Nat) (w:World) (g:Nat) (s:Kz) (cs:List Value):Prop :=
  own s.b=some g∧w.rangeAt s.b 0 cs∧w.there s.b 0 cs.length
def AC0 (A:Nat→Prop) (w:World) (s:Kz) (cs:List Value):Prop:=A s.b∧w.rangeAt s.b 0 cs
def Wu (A:Nat→Prop) (ρ:Xb) (w:World) (g:Nat) (τ:Ty) (x:den τ) (ov:Ov) (M:Kz→List Value→Prop):Prop :=
  ∃ s cs,ρ g=some s∧s.mp=false∧s.off=Q8 τ∧s.ok=okP τ∧M s cs∧Zm A ρ w τ x ov cs
def okV (u:SV) (p:Z3):Prop:=∃ x,getV u p=some x
def Uj (A:Nat→Prop) (ρ:Xb) (w:World) (g:Nat) (u:SV) (M:Kz→List Value→Prop):Prop :=
  ∃ s v,ρ g=some s∧s.mp=false∧s.off=U6 u∧s.ok=okV u∧u≠.junk∧M s (Value.cells v).toList∧Zl A ρ w u v
def Vy (A:Nat→Prop) (ρ:Xb) (w:World) (g:Nat) (e:Ty) (l:List (den e)) (M:Kz→List Value→Prop):Prop :=
  ∃ s,ρ g=some s∧s.mp=false∧s.es=Zj e∧0<Zj e∧s.off=Q8 e∧s.ok=okP e∧List.length l=s.len∧s.len≤s.cap ∧
    (0<s.cap→∃ cs,cs.length=s.cap * s.es∧M s cs∧∀ i,i<s.len→Zm A ρ w e (List.getD l i (dft e)) [] (cut cs (i * s.es) s.es))
def Vj (A:Nat→Prop) (ρ:Xb) (own:Nat→Option Nat) (w:World) (g:Nat):Obj→Prop
  | .box τ x ov=>Wu A ρ w g τ x ov (Own own w g)
  | .boxv u=>Uj A ρ w g u (Own own w g)
  | .fbox τ x ov=>Wu A ρ w g τ x ov (AC0 A w)
  | .fboxv u=>Uj A ρ w g u (AC0 A w)
  | .arr e l=>Vy A ρ w g e l (Own own w g)
  | .frz e l=>Vy A ρ w g e l (AC0 A w)
  | .map κ ν l=>∃ s es c,ρ g=some s∧s.mp=true∧own s.b=some g∧(∀ p,s.ok p↔p=[])∧w.heap[s.b]?=some (.map es c)∧Xm A ρ w κ ν l es.toList∧ABa es.toList c
  | .hid=>True
  | .dead=>True
  | .none=>ρ g=none
theorem Xm.mono {A A':Nat→Prop} {ρ ρ':Xb} {w w':World} (hA:∀ b,A b→A' b) (hρ:∀ g s,ρ g=some s→ρ' g=some s)
    (hw:∀ b,A b→w'.heap[b]?=w.heap[b]?) {κ ν:Ty}:{l:List (den κ×den ν)}→{es:List MapEntry}→Xm A ρ w κ ν l es→Xm A' ρ' w' κ ν l es
  | [],_,h=>by simpa only [Xm] using h
  | (k,v) :: r,_,h=>by
    simp only [Xm] at h ⊢
    obtain ⟨e,es',h1,⟨c1,h2,h3⟩,⟨c2,h4,h5⟩,h6⟩:=h
    exact ⟨e,es',h1,⟨c1,Zm.mono hA hρ hw κ h2,h3⟩,⟨c2,Zm.mono hA hρ hw ν h4,h5⟩,Xm.mono hA hρ hw h6⟩
theorem Vj.mono {A A':Nat→Prop} {ρ ρ':Xb} {own own':Nat→Option Nat} {w w':World} {g:Nat} (hA:∀ b,A b→A' b) (hρ:∀ g s,ρ g=some s→ρ' g=some s)
    (hw:∀ b,A b∨own b=some g→w'.heap[b]?=w.heap[b]?) (ho:∀ b,own b=some g→own' b=some g) (hn:ρ g=none→ρ' g=none):{o:Obj}→Vj A ρ own w g o→Vj A' ρ' own' w' g o
  | .box τ x ov,h=>by
    simp only [Vj,Wu] at h ⊢
    obtain ⟨s,cs,h1,h2,h3,h4,⟨m1,m2,m3⟩,h5⟩:=h
    exact ⟨s,cs,hρ _ _ h1,h2,h3,h4,⟨ho _ m1,X5 (hw _ (.inr m1)) m2,Uz (hw _ (.inr m1)) m3⟩,Zm.mono hA hρ (fun b hb=>hw b (.inl hb)) τ h5⟩
  | .boxv u,h=>by
    simp only [Vj,Uj] at h ⊢
    obtain ⟨s,cs,h1,h2,h3,h4,h6,⟨m1,m2,m3⟩,h5⟩:=h
    exact ⟨s,cs,hρ _ _ h1,h2,h3,h4,h6,⟨ho _ m1,X5 (hw _ (.inr m1)) m2,Uz (hw _ (.inr m1)) m3⟩,Zl.mono hA hρ (fun b hb=>hw b (.inl hb)) u h5⟩
  | .fbox τ x ov,h=>by
    simp only [Vj,Wu] at h ⊢
    obtain ⟨s,cs,h1,h2,h3,h4,⟨m1,m2⟩,h5⟩:=h
    exact ⟨s,cs,hρ _ _ h1,h2,h3,h4,⟨hA _ m1,X5 (hw _ (.inl m1)) m2⟩,Zm.mono hA hρ (fun b hb=>hw b (.inl hb)) τ h5⟩
  | .fboxv u,h=>by
    simp only [Vj,Uj] at h ⊢
    obtain ⟨s,cs,h1,h2,h3,h4,h6,⟨m1,m2⟩,h5⟩:=h
    exact ⟨s,cs,hρ _ _ h1,h2,h3,h4,h6,⟨hA _ m1,X5 (hw _ (.inl m1)) m2⟩,Zl.mono hA hρ (fun b hb=>hw b (.inl hb)) u h5⟩
  | .arr e l,h=>by
    simp only [Vj,Vy] at h ⊢
    obtain ⟨s,h1,h2,h3,h4,h5,h6,h7,h8,h9⟩:=h
    refine ⟨s,hρ _ _ h1,h2,h3,h4,h5,h6,h7,h8,fun hc => ?_⟩
    obtain ⟨cs,k1,⟨m1,m2,m3⟩,k2⟩:=h9 hc
    exact ⟨cs,k1,⟨ho _ m1,X5 (hw _ (.inr m1)) m2,Uz (hw _ (.inr m1)) m3⟩,fun i hi=>Zm.mono hA hρ (fun b hb=>hw b (.inl hb)) e (k2 i hi)⟩
  | .frz e l,h=>by
    simp only [Vj,Vy] at h ⊢
    obtain ⟨s,h1,h2,h3,h4,h5,h6,h7,h8,h9⟩:=h
    refine ⟨s,hρ _ _ h1,h2,h3,h4,h5,h6,h7,h8,fun hc => ?_⟩
    obtain ⟨cs,k1,⟨m1,m2⟩,k2⟩:=h9 hc
    exact ⟨cs,k1,⟨hA _ m1,X5 (hw _ (.inl m1)) m2⟩,fun i hi=>Zm.mono hA hρ (fun b hb=>hw b (.inl hb)) e (k2 i hi)⟩
  | .map κ ν l,h=>by
    simp only [Vj] at h ⊢
    obtain ⟨s,es,c,h1,h2,h3,h4,h5,h6,h7⟩:=h
    exact ⟨s,es,c,hρ _ _ h1,h2,ho _ h3,h4,by rw [hw _ (.inr h3)]; exact h5,Xm.mono hA hρ (fun b hb=>hw b (.inl hb)) h6,h7⟩
  | .hid,_=>trivial
  | .dead,_=>trivial
  | .none,h=>hn h
def Vt (A:Nat→Prop) (w:World):Prop:=∀ k d,Rw k=some d→A k∧∃ cs,Zm A (fun _=>none) w d.τ d.x [] cs∧w.rangeAt k 0 cs
theorem Vt.mono {A A':Nat→Prop} {w w':World} (hA:∀ b,A b→A' b) (hw:∀ b,A b→w'.heap[b]?=w.heap[b]?) (h:Vt A w):Vt A' w':=fun k d hd=>by
  obtain ⟨h1,cs,h2,h3⟩:=h k d hd
  exact ⟨hA k h1,cs,Zm.mono hA (fun _ _ h=>h) hw d.τ h2,X5 (hw k h1) h3⟩
structure Y4 where
  w:World
  A:Nat→Prop
structure St (B:Nat) (w0:Y4) (A:Nat→Prop) (ρ:Xb) (own:Nat→Option Nat) (w:World) (h:Nat→Obj):Prop where
  objs:∀ g,Vj A ρ own w g (h g)
  apart:∀ b g,own b=some g→¬ A b
  old:∀ b,A b→b<w.heap.size
  oldO:∀ b g,own b=some g→b<w.heap.size
  base:∀ b g,own b=some g→B≤b
  below:RowKit.Below B w0.w w
  hB:B≤w0.w.heap.size
  imm:∀ b,A b→w0.A b∨B≤b
  names:∀ g,(∃ s,ρ g=some s)→h g≠.none
  glob:Vt A w
structure Yd (A:Nat→Prop) (ρ:Xb) (w:World) (A':Nat→Prop) (ρ':Xb) (w':World):Prop where
  hA:∀ b,A b→A' b
  hρ:∀ g s,ρ g=some s→ρ' g=some s
  hw:∀ b,A b→w'.heap[b]?=w.heap[b]?
theorem Yd.refl (A:Nat→Prop) (ρ:Xb) (w:World):Yd A ρ w A ρ w:=⟨fun _ h=>h,fun _ _ h=>h,fun _ _=>rfl⟩
theorem Yd.trans {A A' A'':Nat→Prop} {ρ ρ' ρ'':Xb} {w w' w'':World} (h:Yd A ρ w A' ρ' w') (k:Yd A' ρ' w' A'' ρ'' w''):Yd A ρ w A'' ρ'' w'' :=
  ⟨fun b hb=>k.hA b (h.hA b hb),fun g s hs=>k.hρ g s (h.hρ g s hs),fun b hb=>(k.hw b (h.hA b hb)).trans (h.hw b hb)⟩
theorem Yd.repV {A A':Nat→Prop} {ρ ρ':Xb} {w w':World} (h:Yd A ρ w A' ρ' w') {u:SV} {v:Value} (hv:Zl A ρ w u v):Zl A' ρ' w' u v :=
  Zl.mono h.hA h.hρ h.hw u hv
theorem Yd.repC {A A':Nat→Prop} {ρ ρ':Xb} {w w':World} (h:Yd A ρ w A' ρ' w') {τ:Ty} {x:den τ} {ov:Ov} {cs:List Value} (hv:Zm A ρ w τ x ov cs):Zm A' ρ' w' τ x ov cs :=
  Zm.mono h.hA h.hρ h.hw τ hv
theorem St.turn {B:Nat} {w0:Y4} {A A':Nat→Prop} {ρ ρ':Xb} {own own':Nat→Option Nat} {w w':World} {h h':Nat→Obj} (st:St B w0 A ρ own w h) (G:Nat→Prop)
    (hl:Yd A ρ w A' ρ' w') (hw:∀ b g,own b=some g→¬ G g→w'.heap[b]?=w.heap[b]?) (ho:∀ b g,own b=some g→¬ G g→own' b=some g)
    (hn:∀ g,¬ G g→ρ g=none→ρ' g=none) (hh:∀ g,¬ G g→h' g=h g) (hG:∀ g,G g→Vj A' ρ' own' w' g (h' g)) (hGn:∀ g,G g→h' g≠.none)
    (hap:∀ b g,own' b=some g→¬ A' b) (hold:∀ b,A' b→b<w'.heap.size) (holdO:∀ b g,own' b=some g→b<w'.heap.size) (hbase:∀ b g,own' b=some g→B≤b)
    (hbelow:RowKit.Below B w w') (himm:∀ b,A' b→A b∨B≤b):St B w0 A' ρ' own' w' h' where
  glob:=st.glob.mono hl.hA hl.hw
  objs g:=by
    by_cases hg:G g
    · exact hG g hg
    · rw [hh g hg]
      refine Vj.mono hl.hA hl.hρ (fun b hb => ?_) (fun b hb=>ho b g hb hg) (hn g hg) (st.objs g)
      rcases hb with hb | hb
      · exact hl.hw b hb
      · exact hw b g hb hg
  apart:=hap
  old:=hold
  oldO:=holdO
  base:=hbase
  below:=st.below.trans hbelow
  hB:=st.hB
  imm b hb:=(himm b hb).elim (st.imm b) .inr
  names g hg:=by
    by_cases hg':G g
    · exact hGn g hg'
    · rw [hh g hg']
      refine st.names g ?_
      cases hr:ρ g with
      | none=>obtain ⟨s,hs⟩:=hg; rw [hn g hg' hr] at hs; cases hs
      | some s=>exact ⟨s,rfl⟩
end Go.Proofs.YtpemapoblhleoaaGreatDoor.Ghost
namespace Go.Proofs.YtpemapoblhleoaaGreatDoor.Ghost
open Go
mutual
def zeroCells:Ty→List Value
  | .bool=>[.bool false]
  | .int k=>[.int k 0]
  | .str=>[.string ⟨#[]⟩]
  | .sl _=>[.slice none 0 0]
  | .arr n e=>E8 n (zeroCells e)
  | .st fs=>Hu fs
def Hu:List Ty→List Value
  | []=>[]
  | t :: r=>zeroCells t ++ Hu r
def E8:Nat→List Value→List Value
  | 0,_=>[]
  | n+1,l=>l ++ E8 n l
end
def AFo:Value→Value→Bool
  | .bool a,.bool b=>a == b
  | .int k a,.int k' b=>decide (k=k') && decide (a=b)
  | .string a,.string b=>Nat.beq a.data.size 0 && Nat.beq b.data.size 0
  | .slice none 0 0,.slice none 0 0=>true
  | .nilFunc,.nilFunc=>true
  | _,_=>false
def F9:List Value→List Value→Bool
  | [],[]=>true
  | a :: r,b :: s=>AFo a b && F9 r s
  | _,_=>false
theorem AM7:{a b:Value}→AFo a b=true→a=b
  | .bool a,.bool b,h=>by simp [AFo] at h; rw [h]
  | .int k a,.int k' b,h=>by simp [AFo] at h; rw [h.1,h.2]
  | .string a,.string b,h=>by
    simp only [AFo,Bool.and_eq_true] at h
    have h1:=Nat.eq_of_beq_eq_true h.1
    have h2:=Nat.eq_of_beq_eq_true h.2
    obtain ⟨⟨l⟩⟩:=a
    obtain ⟨⟨m⟩⟩:=b
    simp at h1 h2
    subst h1; subst h2; rfl
  | .slice none 0 0,.slice none 0 0,_=>rfl
  | .nilFunc,.nilFunc,_=>rfl
theorem Ma:{a b:List Value}→F9 a b=true→a=b
  | [],[],_=>rfl
  | a :: r,b :: s,h=>by
    simp only [F9,Bool.and_eq_true] at h
    rw [AM7 h.1,Ma h.2]
def Jl (P:Program) (t:TypeId) (n:Nat):Bool:=match P.info? t with
  | some i=>Nat.beq i.size n
  | none=>false
mutual
def Xq (P:Program):Ty→TypeId→Bool
  | .bool,t=>(match P.underlying t with | some .bool=>true | _=>false)
  | .int k,t=>(match P.underlying t with | some (.int k')=>decide (k=k') | _=>false)
  | .str,t=>(match P.underlying t with | some .string=>true | _=>false)
  | .sl e,t=>(match P.underlying t with | some (.slice e')=>Xq P e e' && Jl P e' (Zj e) && Nat.blt 0 (Zj e) | _=>false)
  | .arr n e,t=>(match P.underlying t with | some (.array n' e')=>Nat.beq n' n && Xq P e e' && Jl P e' (Zj e) && Nat.blt 0 (Zj e) | _=>false)
  | .st fs,t=>(match P.underlying t with | some (.struct l)=>Qw P fs 0 l.toList | _=>false)
def Qw (P:Program):List Ty→Nat→List Field→Bool
  | [],_,[]=>true
  | t :: r,o,f :: s=>Nat.beq f.offset o && Jl P f.type (Zj t) && Nat.blt 0 (Zj t) && Xq P t f.type && Qw P r (o+Zj t) s
  | _,_,_=>false
end
def Lc (P:Program) (τ:Ty) (t:TypeId):Bool:=match P.info? t with
  | some i=>(match i.zero with | some (.agg cs)=>Gz τ && F9 cs.toList (zeroCells τ) | some v => !(Gz τ) && F9 [v] (zeroCells τ) | none=>false)
  | none=>false
theorem Gx {P:Program} {t:TypeId} {n:Nat} (h:Jl P t n=true):∃ i,P.info? t=some i∧i.size=n:=by
  unfold Jl at h
  split at h
  · rename_i i hi; exact ⟨i,hi,Nat.eq_of_beq_eq_true h⟩
  · cases h
theorem AGr {P:Program} {t:TypeId} {n:Nat} (h:Jl P t n=true):(P.info? t).map (·.size)=some n:=by
  obtain ⟨i,h1,h2⟩:=Gx h
  rw [h1]; simp [h2]
theorem J1 {P:Program} {t:TypeId} {n:Nat} (h:Jl P t n=true) (w:World):(sizeOf t).run P w=.ok n w:=by
  obtain ⟨i,h1,h2⟩:=Gx h
  simp [sizeOf,typeInfo,h1,h2]
theorem Gf {P:Program} {t:TypeId} {i:TypeInfo} (h:P.info? t=some i) (w:World):(typeInfo t).run P w=.ok i w:=by
  simp [typeInfo,h]
theorem Eg {P:Program}:{τ:Ty}→{t:TypeId}→Xq P τ t=true→∃ d,P.underlying t=some d∧d.isRow=Gz τ
  | .bool,_,h=>by simp only [Xq] at h; split at h <;> simp_all [Gz,TypeDesc.isRow]
  | .int k,_,h=>by simp only [Xq] at h; split at h <;> simp_all [Gz,TypeDesc.isRow]
  | .str,_,h=>by simp only [Xq] at h; split at h <;> simp_all [Gz,TypeDesc.isRow]
  | .sl e,_,h=>by simp only [Xq] at h; split at h <;> simp_all [Gz,TypeDesc.isRow]
  | .arr n e,_,h=>by simp only [Xq] at h; split at h <;> simp_all [Gz,TypeDesc.isRow]
  | .st fs,_,h=>by simp only [Xq] at h; split at h <;> simp_all [Gz,TypeDesc.isRow]
theorem Bn {P:Program} {t:TypeId} {d:TypeDesc} (h:P.underlying t=some d) (w:World):(isAgg t).run P w=.ok d.isRow w:=by
  unfold isAgg
  rw [Sem.run_bind,run_underlying h w]
  cases d <;> rfl
theorem U1 {P:Program} {τ:Ty} {t:TypeId} (h:Lc P τ t=true) (w:World):(zeroValue t).run P w=.ok (mkV τ (zeroCells τ)) w:=by
  unfold Lc at h
  cases hi:P.info? t with
  | none=>rw [hi] at h; cases h
  | some i =>
    simp only [hi] at h
    simp only [zeroValue,Sem.run_bind,Gf hi,Result.andThen_ok]
    cases hz:i.zero with
    | none=>simp [hz] at h
    | some v =>
      simp only [hz] at h
      have key:v=mkV τ (zeroCells τ):=by
        cases v with
        | agg cs =>
          simp only [Bool.and_eq_true] at h
          have:=Ma h.2
          unfold mkV
          rw [h.1,← this]
        | _ =>
          simp only [Bool.and_eq_true,Bool.not_eq_true'] at h
          have:=Ma h.2
          unfold mkV
          rw [h.1,← this]; rfl
      subst key
      rfl
theorem AEk (n:Nat) (l:List Value):(E8 n l).length=n * l.length:=by
  induction n with
  | zero=>simp [E8]
  | succ n ih=>simp only [E8,List.length_append,ih,Nat.add_mul,Nat.one_mul]; omega
theorem ADh (l:List Value):(n i:Nat)→i<n→cut (E8 n l) (i * l.length) l.length=l
  | 0,_,h=>by omega
  | n+1,0,_=>by simp [cut,E8]
  | n+1,i+1,h=>by
    have:=ADh l n i (by omega)
    unfold cut at this ⊢
    rw [show (i+1) * l.length=l.length+i * l.length by rw [Nat.add_mul]; omega]
    simp only [E8]
    rw [← List.drop_drop,List.drop_append_of_le_length (by omega),List.drop_length,List.nil_append]
    exact this
theorem O0 {α:Type} {n i:Nat} {x d:α} (h:i<n):(List.replicate n x).getD i d=x:=by
  rw [List.getD_eq_getElem?_getD,List.getElem?_replicate,if_pos h]; rfl
mutual
theorem Zm.zero (A:Nat→Prop) (ρ:Xb) (w:World):(τ:Ty)→Zm A ρ w τ (dft τ) [] (zeroCells τ)
  | .bool=>by simp only [Zm,dft,zeroCells]
  | .int k=>by simp only [Zm,dft,zeroCells]
  | .str=>by simp only [Zm,dft,zeroCells]
  | .sl e=>by
    simp only [Zm,zeroCells]
    exact ⟨none,0,0,rfl,by simp,fun _=>⟨rfl,by simp⟩⟩
  | .arr n e=>by
    have he:=Zm.zero A ρ w e
    have hl:=Zm.length e he
    simp only [Zm,zeroCells]
    refine ⟨by simp [dft],by rw [AEk,hl],fun i hi => ?_⟩
    have hc:=ADh (zeroCells e) n i hi
    rw [hl] at hc
    simp only [dft]
    change Zm A ρ w e _ _ (cut (E8 n (zeroCells e)) (i * Zj e) (Zj e))
    rw [O0 hi,hc]
    exact he
  | .st fs=>by simp only [Zm,zeroCells]; exact Xl.zero A ρ w fs 0
theorem Xl.zero (A:Nat→Prop) (ρ:Xb) (w:World):(fs:List Ty)→(j:Nat)→Xl A ρ w fs j (BGu fs) [] (Hu fs)
  | [],_=>by simp only [Xl,Hu]
  | t :: r,j=>by
    have ht:=Zm.zero A ρ w t
    have hl:=Zm.length t ht
    simp only [Xl,Hu]
    exact ⟨by rw [← hl,List.take_left]; exact ht,by rw [← hl,List.drop_left]; exact Xl.zero A ρ w r (j+1)⟩
end
def Nu:(τ:Ty)→den τ→Value→Bool
  | .bool,x,.bool b=>x == b
  | .int k,x,.int k' n=>decide (k=k') && decide (x=n)
  | .str,x,.string s=>decide (x.data.toList=s.data.toList)
  | .sl _,x,.slice _ 0 _=>List.isEmpty x
  | _,_,_=>false
def Xj:Opd→Operand→Bool
  | .t i,.tmp j=>Nat.beq i j
  | .g k,.global g=>Nat.beq k g
  | .c τ x,.const v=>Nu τ x v
  | .f f,.func g=>Nat.beq f g
  | .nf,.const .nilFunc=>true
  | _,_=>false
def Jm:List Opd→List Operand→Bool
  | [],[]=>true
  | x :: r,y :: s=>Xj x y && Jm r s
  | _,_=>false
def Xe (A:Nat→Prop) (ρ:Xb) (w:World) (s:Nat→SV) (a:Act):Prop:=∀ i,Zl A ρ w (s i) (a.eval (.tmp i))
theorem ADf {A:Nat→Prop} {ρ:Xb} {w:World}:(τ:Ty)→(x:den τ)→(v:Value)→Nu τ x v=true→Zl A ρ w (.dat τ x []) v
  | .bool,x,.bool b,h=>by simp only [Nu,beq_iff_eq] at h; subst h; simp only [Zl,Zm]; exact ⟨_,rfl,rfl⟩
  | .int k,x,.int k' n,h=>by
    simp only [Nu,Bool.and_eq_true,decide_eq_true_eq] at h
    obtain ⟨rfl,rfl⟩:=h
    simp only [Zl,Zm]; exact ⟨_,rfl,rfl⟩
  | .str,x,.string s,h=>by
    simp only [Nu,decide_eq_true_eq] at h
    have:x=s:=by
      obtain ⟨⟨l⟩⟩:=x
      obtain ⟨⟨m⟩⟩:=s
      simpa using h
    subst this
    simp only [Zl,Zm]; exact ⟨_,rfl,rfl⟩
  | .sl e,x,.slice a 0 c,h=>by
    simp only [Nu,List.isEmpty_iff] at h
    subst h
    simp only [Zl,Zm]
    exact ⟨[.slice a 0 c],⟨a,0,c,rfl,by simp,fun _=>⟨rfl,by simp⟩⟩,rfl⟩
theorem X1 {A:Nat→Prop} {ρ:Xb} {w:World} {s:Nat→SV} {a:Act} (hs:Xe A ρ w s a):{x:Opd}→{y:Operand}→Xj x y=true→Zl A ρ w (evO s x) (a.eval y)
  | .t i,.tmp j,h=>by
    have:=Nat.eq_of_beq_eq_true (by simpa only [Xj] using h)
    subst this
    exact hs i
  | .c τ x,.const v,h=>ADf τ x v h
  | .f f,.func g,h=>by
    have:=Nat.eq_of_beq_eq_true (by simpa only [Xj] using h)
    subst this
    simp only [evO,Zl]
    exact ⟨[],rfl,by simp only [Zp]⟩
  | .nf,.const .nilFunc,_=>by simp only [evO,Zl]; rfl
  | .g k,.global g,h=>by
    have:=Nat.eq_of_beq_eq_true (by simpa only [Xj] using h)
    subst this
    simp only [evO,Zl]; rfl
theorem T6 {A:Nat→Prop} {ρ:Xb} {w:World} {s:Nat→SV} {a:Act} (hs:Xe A ρ w s a):{xs:List Opd}→{ys:List Operand}→Jm xs ys=true→Zp A ρ w (xs.map (evO s)) (ys.map a.eval)
  | [],[],_=>by simp only [List.map_nil,Zp]
  | x :: r,y :: t,h=>by
    simp only [Jm,Bool.and_eq_true] at h
    simp only [List.map_cons,Zp]
    exact ⟨_,_,rfl,X1 hs h.1,T6 hs h.2⟩
end Go.Proofs.YtpemapoblhleoaaGreatDoor.Ghost
namespace Go.Proofs.YtpemapoblhleoaaGreatDoor.Ghost
open Go
def Yb (h:Nat→Obj):Eff→Nat→Obj
  | []=>h
  | (g,o) :: r=>Yb (fun i=>if i=g then o else h i) r
theorem Wl:(h:Y3)→(g i:Nat)→(o:Obj)→Xp (Rm h g o) i=if i=g then o else Xp h i
  | [],0,0,o=>by simp [Rm,Xp]
  | [],0,i+1,o=>by simp [Rm,Xp]
  | [],g+1,0,o=>by simp [Rm,Xp]
  | [],g+1,i+1,o=>by
    have:=Wl [] g i o
    simp only [Rm,Xp,this,Nat.add_right_cancel_iff]
  | x :: r,0,0,o=>by simp [Rm,Xp]
  | x :: r,0,i+1,o=>by simp [Rm,Xp]
  | x :: r,g+1,0,o=>by simp [Rm,Xp]
  | x :: r,g+1,i+1,o=>by
    have:=Wl r g i o
    simp only [Rm,Xp,this,Nat.add_right_cancel_iff]
theorem O2 (h:Y3):(e:Eff)→Xp (Pf h e)=Yb (Xp h) e
  | []=>rfl
  | (g,o) :: r=>by
    have h1:=O2 (Rm h g o) r
    simp only [Pf,Yb,h1]
    congr 1
    funext i
    rw [Wl]
def Zv (P:Program) (o:Oper) (a:Act) (w:World) (B:Nat) (w0:Y4) (A:Nat→Prop) (ρ:Xb) (v:SV) (h':Nat→Obj):Prop :=
  ∀ (next:Act→World→Prop) (Q:Exit→Act→World→Prop),
    (∀ v' w' A' ρ' own',St B w0 A' ρ' own' w' h'→Yd A ρ w A' ρ' w'→Zl A' ρ' w' v v'→next (a.put o.dst v') w')→o.wp P a w next Q
section
variable {P:Program} {o:Oper} {a:Act} {w:World} {B:Nat} {w0:Y4} {A:Nat→Prop} {ρ:Xb} {own:Nat→Option Nat} {h:Nat→Obj} {s:Nat→SV}
theorem Zv.pure {v:SV} {v':Value} (st:St B w0 A ρ own w h) (he:(execOp a.eval o).run P w=.ok (.value v') w) (hv:Zl A ρ w v v') :
    Zv P o a w B w0 A ρ v h:=fun next Q K=>by
  unfold Oper.wp; rw [he]; exact K v' w A ρ own st (Yd.refl ..) hv
theorem Zv.value {v:SV} {v':Value} {w':World} {A':Nat→Prop} {ρ':Xb} {own':Nat→Option Nat} {h':Nat→Obj} (he:(execOp a.eval o).run P w=.ok (.value v') w')
    (st:St B w0 A' ρ' own' w' h') (hl:Yd A ρ w A' ρ' w') (hv:Zl A' ρ' w' v v'):Zv P o a w B w0 A ρ v h':=fun next Q K=>by
  unfold Oper.wp; rw [he]; exact K v' w' A' ρ' own' st hl hv
theorem Zv.skip {v:SV} {w':World} {A':Nat→Prop} {ρ':Xb} {own':Nat→Option Nat} {h':Nat→Obj} (he:(execOp a.eval o).run P w=.ok .skip w')
    (st:St B w0 A' ρ' own' w' h') (hl:Yd A ρ w A' ρ' w') (hv:Zl A' ρ' w' v undef):Zv P o a w B w0 A ρ v h':=fun next Q K=>by
  unfold Oper.wp; rw [he]; exact K undef w' A' ρ' own' st hl hv
theorem Hr {k:IntKind} {n:Int} {ov:Ov} {v:Value} (h:Zl A ρ w (.dat (.int k) n ov) v):v=.int k n:=by
  simp only [Zl,Zm] at h; obtain ⟨_,rfl,rfl⟩:=h; rfl
theorem Vr {b:Bool} {ov:Ov} {v:Value} (h:Zl A ρ w (.dat .bool b ov) v):v=.bool b:=by
  simp only [Zl,Zm] at h; obtain ⟨_,rfl,rfl⟩:=h; rfl
theorem H9 {k:IntKind} {n:Int} {ov:Ov}:Zl A ρ w (.dat (.int k) n ov) (.int k n):=by
  simp only [Zl,Zm]; exact ⟨_,rfl,rfl⟩
theorem Hk {b:Bool} {ov:Ov}:Zl A ρ w (.dat .bool b ov) (.bool b):=by
  simp only [Zl,Zm]; exact ⟨_,rfl,rfl⟩
theorem AE2 {v:Value} (h:Zl A ρ w .und v):v=undef:=by simpa only [Zl] using h
def ABr (o:Oper) (x:Opd):Bool:=match o.op with
  | .move y=>Xj x y
  | .assign y=>Xj x y
  | _=>false
variable (st:St B w0 A ρ own w h) (hs:Xe A ρ w s a)
include st hs
theorem AIw {x:Opd} (hc:ABr o x=true):Zv P o a w B w0 A ρ (evO s x) h:=by
  unfold ABr at hc
  split at hc
  · rename_i y hy
    exact Zv.pure st (by simp [execOp,hy]) (X1 hs hc)
  · rename_i y hy
    exact Zv.pure st (by simp [execOp,hy]) (X1 hs hc)
  · cases hc
def Df (o:Oper) (c x y:Opd):Bool:=match o.op with
  | .pick c' x' y'=>Xj c c' && Xj x x' && Xj y y'
  | _=>false
omit st hs in
theorem ABt {c x y:Opd} (hc:Df o c x y=true):∃ c' x' y',o.op=.pick c' x' y'∧Xj c c'=true∧Xj x x'=true∧Xj y y'=true:=by
  unfold Df at hc
  split at hc
  · rename_i c' x' y' ho
    simp only [Bool.and_eq_true] at hc
    exact ⟨c',x',y',ho,hc.1.1,hc.1.2,hc.2⟩
  · cases hc
theorem Fk {c x y:Opd} (hc:Df o c x y=true) {t:Bool} {ov:Ov} (ht:evO s c=.dat .bool t ov) {v:SV}
    (hv:∀ u u',Zl A ρ w (evO s x) u→Zl A ρ w (evO s y) u'→Zl A ρ w v (if t then u else u')):Zv P o a w B w0 A ρ v h:=by
  obtain ⟨c',x',y',ho,h1,h2,h3⟩:=ABt hc
  have k1:=X1 hs h1
  rw [ht] at k1
  have k1:=Vr k1
  exact Zv.pure st (by simp [execOp,ho,k1,asBool]) (hv _ _ (X1 hs h2) (X1 hs h3))
def ABi (o:Oper) (op:BinOp) (x y:Opd):Bool:=match o.op with
  | .binOp op' _ x' y' _=>decide (op'=op) && Xj x x' && Xj y y'
  | _=>false
omit st hs in
theorem ADb {op:BinOp} {x y:Opd} (hc:ABi o op x y=true):∃ t x' y' t',o.op=.binOp op t x' y' t'∧Xj x x'=true∧Xj y y'=true:=by
  unfold ABi at hc
  split at hc
  · rename_i op' t x' y' t' ho
    simp only [Bool.and_eq_true,decide_eq_true_eq] at hc
    obtain ⟨⟨rfl,h1⟩,h2⟩:=hc
    exact ⟨t,x',y',t',ho,h1,h2⟩
  · cases hc
omit st hs in
theorem Db (op:BinOp) (t:TypeId) (x y:Operand) (k k':IntKind) (m n:Int):(eqGuard op t x y (.int k m) (.int k' n)).run P w=.ok () w:=by
  unfold eqGuard; cases op <;> rfl
omit st hs in
theorem R7 (op:BinOp) (t:TypeId) (x y:Operand) (m n:Bool):(eqGuard op t x y (.bool m) (.bool n)).run P w=.ok () w:=by
  unfold eqGuard; cases op <;> rfl
omit st hs in
theorem P9 (op:BinOp) (t:TypeId) (x y:Operand) (m n:ByteArray):(eqGuard op t x y (.string m) (.string n)).run P w=.ok () w:=by
  unfold eqGuard; cases op <;> rfl
theorem ALp {R:Type} {op:BinOp} {x y:Opd} {K:SV→Option R} {r:R}
    (hc:ABi o op x y=true) (hg:AH6 op (evO s x) (evO s y) K=some r) :
    ∃ v,K v=some r∧Zv P o a w B w0 A ρ v h:=by
  obtain ⟨t,x',y',t',ho,h1,h2⟩:=ADb hc
  have k1:=X1 hs h1
  have k2:=X1 hs h2
  unfold AH6 at hg
  split at hg
  · rename_i k m ov k' n ov' e1 e2
    rw [e1] at k1; rw [e2] at k2
    have k1:=Hr k1
    have k2:=Hr k2
    split at hg
    · rename_i hk
      subst hk
      have fin:∀ v:Value,(Go.binOp op t (.int k m) (.int k n)).run P w=.ok v w→(execOp a.eval o).run P w=.ok (.value v) w:=fun v hv=>by
        simp only [execOp,ho,k1,k2,Sem.run_bind,Db,Result.andThen_ok,hv,Sem.run_pure]
      unfold Du at hg
      split at hg
      · exact ⟨_,hg,Zv.pure st (fin _ (by simp [Go.binOp,Op.intArith])) H9⟩
      · exact ⟨_,hg,Zv.pure st (fin _ (by simp [Go.binOp,Op.intArith])) H9⟩
      · exact ⟨_,hg,Zv.pure st (fin _ (by simp [Go.binOp,Op.intArith])) H9⟩
      · split at hg
        · cases hg
        · rename_i hn
          exact ⟨_,hg,Zv.pure st (fin _ (by simp [Go.binOp,Op.intDiv,hn])) H9⟩
      · split at hg
        · cases hg
        · rename_i hn
          exact ⟨_,hg,Zv.pure st (fin _ (by simp [Go.binOp,Op.intDiv,hn])) H9⟩
      · exact ⟨_,hg,Zv.pure st (fin _ (by simp [Go.binOp,Op.intCmp]; try rfl)) Hk⟩
      · exact ⟨_,hg,Zv.pure st (fin _ (by simp [Go.binOp,Op.intCmp,bne]; try rfl)) Hk⟩
      · exact ⟨_,hg,Zv.pure st (fin _ (by simp [Go.binOp,Op.intCmp]; try rfl)) Hk⟩
      · exact ⟨_,hg,Zv.pure st (fin _ (by simp [Go.binOp,Op.intCmp]; try rfl)) Hk⟩
      · exact ⟨_,hg,Zv.pure st (fin _ (by simp [Go.binOp,Op.intCmp]; try rfl)) Hk⟩
      · exact ⟨_,hg,Zv.pure st (fin _ (by simp [Go.binOp,Op.intCmp]; try rfl)) Hk⟩
      · cases hg
    · cases hg
  · cases hg
end
end Go.Proofs.YtpemapoblhleoaaGreatDoor.Ghost
namespace Go.Proofs.YtpemapoblhleoaaGreatDoor.Ghost
open Go
section
variable {P:Program} {o:Oper} {a:Act} {w:World} {B:Nat} {w0:Y4} {A:Nat→Prop} {ρ:Xb} {own:Nat→Option Nat} {h:Nat→Obj} {s:Nat→SV}
def AFx (o:Oper) (x:Opd):Bool:=match o.op with
  | .unOp .not _ y=>Xj x y
  | _=>false
def AFw (o:Oper) (x:Opd):Bool:=match o.op with
  | .unOp .neg _ y=>Xj x y
  | _=>false
def isI (P:Program) (k:IntKind) (t:TypeId):Bool:=match P.underlying t with
  | some (.int k')=>decide (k'=k)
  | _=>false
def ABk (P:Program) (o:Oper) (k:IntKind) (x:Opd):Bool:=match o.op with
  | .convert src dst y=>isI P k dst && (P.underlying src).isSome && Xj x y
  | _=>false
def Mt (o:Oper) (x:Opd) (i:Nat):Bool:=match o.op with
  | .extract y j=>Nat.beq i j && Xj x y
  | _=>false
def ABm (o:Oper) (f:FuncId) (caps:List Opd):Bool:=match o.op with
  | .makeFunc (.func g) first captured=>Nat.beq f g && first.toList.isEmpty && Jm caps captured.toList
  | _=>false
def Om (o:Oper) (b:Builtin→Bool) (xs:List Opd):Bool:=match o.op with
  | .call c=>(match c.callee with | .builtin b'=>b b' | _=>false) && Jm xs c.args.toList
  | _=>false
def AL5 (P:Program) (o:Oper):Bool:=match o.op with
  | .call c=>(match c.argTypes.toList with
    | t :: _=>(match P.underlying t with | some .string=>true | _=>false)
    | []=>false)
  | _=>false
def AL4 (P:Program) (o:Oper):Bool:=match o.op with
  | .call c=>(match c.argTypes.toList with | t :: _=>(match P.underlying t with | some (.slice _)=>true | _=>false) | _=>false)
  | _=>false
theorem AL1 {k:IntKind} {t:TypeId} (h:isI P k t=true):P.underlying t=some (.int k):=by
  unfold isI at h
  split at h
  · rename_i k' hk; rw [hk]; simp at h; rw [h]
  · cases h
variable (st:St B w0 A ρ own w h) (hs:Xe A ρ w s a)
include st hs
theorem ALw {x:Opd} (hc:AFx o x=true) {b:Bool} {ov:Ov} (hx:evO s x=.dat .bool b ov):Zv P o a w B w0 A ρ (.dat .bool (!b) []) h:=by
  unfold AFx at hc
  split at hc
  · rename_i t y ho
    have k:=X1 hs hc
    rw [hx] at k
    have k:=Vr k
    exact Zv.pure st (by simp [execOp,ho,k,Op.unary]) Hk
  · cases hc
theorem ALv {x:Opd} (hc:AFw o x=true) {k:IntKind} {n:Int} {ov:Ov} (hx:evO s x=.dat (.int k) n ov):Zv P o a w B w0 A ρ (.dat (.int k) (k.wrap (0 - n)) []) h:=by
  unfold AFw at hc
  split at hc
  · rename_i t y ho
    have k1:=X1 hs hc
    rw [hx] at k1
    have k1:=Hr k1
    exact Zv.pure st (v':=.int k (k.wrap (0 - n))) (by simp only [execOp,ho,k1,Op.unary,Op.intArith,Sem.run_bind,Sem.run_pure,Result.andThen_ok]) H9
  · cases hc
theorem AIq {x:Opd} {k:IntKind} (hc:ABk P o k x=true) {k':IntKind} {n:Int} {ov:Ov} (hx:evO s x=.dat (.int k') n ov):Zv P o a w B w0 A ρ (.dat (.int k) (k.wrap n) []) h:=by
  unfold ABk at hc
  split at hc
  · rename_i src dst y ho
    simp only [Bool.and_eq_true] at hc
    have k1:=X1 hs hc.2
    rw [hx] at k1
    have k1:=Hr k1
    obtain ⟨d,hd⟩:=Option.isSome_iff_exists.1 hc.1.2
    have hi:=AL1 hc.1.1
    refine Zv.pure st (v':=.int k (k.wrap n)) ?_ H9
    simp only [execOp,ho,k1,convert,Sem.run_bind,run_underlying hd w,run_underlying hi w,Result.andThen_ok,Conv.intToInt,Sem.run_pure]
  · cases hc
theorem AB3 {x:Opd} {i:Nat} (hc:Mt o x i=true) {us:List SV} {u:SV} (hx:evO s x=.tup us) (hu:us[i]?=some u):Zv P o a w B w0 A ρ u h:=by
  unfold Mt at hc
  split at hc
  · rename_i y j ho
    simp only [Bool.and_eq_true] at hc
    have hij:=Nat.eq_of_beq_eq_true hc.1
    subst hij
    have k1:=X1 hs hc.2
    rw [hx] at k1
    simp only [Zl] at k1
    obtain ⟨vs,k1,k2⟩:=k1
    have get:∀ (us:List SV) (vs:List Value) (i:Nat),Zp A ρ w us vs→us[i]?=some u→∃ v,vs[i]?=some v∧Zl A ρ w u v:=by
      intro us
      induction us with
      | nil=>intro vs i _ h; simp at h
      | cons u' r ih =>
        intro vs i h1 h2
        simp only [Zp] at h1
        obtain ⟨v,vs',rfl,h3,h4⟩:=h1
        cases i with
        | zero=>simp at h2; subst h2; exact ⟨v,by simp,h3⟩
        | succ i=>simpa using ih vs' i h4 (by simpa using h2)
    obtain ⟨v,m1,m2⟩:=get us vs i k2 hu
    refine Zv.pure st (v':=v) ?_ m2
    simp [execOp,ho,k1,Instr.extract,m1]
  · cases hc
theorem AIr {f:FuncId} {caps:List Opd} (hc:ABm o f caps=true):Zv P o a w B w0 A ρ (.clo f (caps.map (evO s))) h:=by
  unfold ABm at hc
  split at hc
  · rename_i g first captured ho
    simp only [Bool.and_eq_true,List.isEmpty_iff] at hc
    have hij:=Nat.eq_of_beq_eq_true hc.1.1
    subst hij
    have k1:=T6 hs hc.2
    have hf:first = #[]:=by simpa using hc.1.2
    subst hf
    refine Zv.pure st (v':=.func (.func f) #[] (captured.map a.eval)) ?_ ?_
    · simp [execOp,ho,Instr.makeFunc]
    · simp only [Zl]
      exact ⟨_,by rw [← Array.toList_map],k1⟩
  · cases hc
omit st hs in
theorem Wz {b:Builtin→Bool} {xs:List Opd} (hc:Om o b xs=true):∃ c b',o.op=.call c∧c.callee=.builtin b'∧b b'=true∧Jm xs c.args.toList=true:=by
  unfold Om at hc
  split at hc
  · rename_i c ho
    simp only [Bool.and_eq_true] at hc
    cases hb:c.callee with
    | builtin b'=>simp only [hb] at hc; exact ⟨c,b',ho,hb,hc.1,hc.2⟩
    | value f=>simp [hb] at hc
    | invoke f m=>simp [hb] at hc
  · cases hc
omit st hs in
theorem Ux {c:Call} {b:Builtin} (ho:o.op=.call c) (hb:c.callee=.builtin b) :
    (execOp a.eval o).run P w=(builtin b c.argTypes o.type (c.args.map fun | .const _=>true | _=>false) (c.args.map a.eval)).run P w:=by
  simp [execOp,ho,Go.resolve,hb,invoke]; rfl
theorem AIt {x:Opd} (hc:Om o (fun | .len=>true | _=>false) [x]=true) (ht:AL5 P o=true) {y:ByteArray} {ov:Ov} (hx0:evO s x=.dat .str y ov):Zv P o a w B w0 A ρ (.dat (.int .i64) ((ByteArray.size y:Nat):Int) []) h:=by
  obtain ⟨c,b,ho,hb,hbb,hx⟩:=Wz hc
  cases b <;> simp at hbb
  simp only [AL5,ho] at ht
  have hx':∃ y,c.args.toList=[y]∧Xj x y=true:=by
    cases hl:c.args.toList with
    | nil=>rw [hl] at hx; simp [Jm] at hx
    | cons y r=>cases r with
      | nil=>rw [hl] at hx; simp [Jm] at hx; exact ⟨y,rfl,hx⟩
      | cons z r=>rw [hl] at hx; simp [Jm] at hx
  obtain ⟨z,hy,hxy⟩:=hx'
  have hargs:c.args = #[z]:=by rw [← Array.toArray_toList (xs:=c.args),hy]
  cases htl:c.argTypes.toList with
  | nil=>simp [htl] at ht
  | cons t tr =>
    simp only [htl] at ht
    have ht0:c.argTypes[0]?=some t:=by rw [← Array.getElem?_toList,htl]; rfl
    have hu:P.underlying t=some .string:=by
      split at ht
      · rename_i he; exact he
      · cases ht
    have k1:=X1 hs hxy
    rw [hx0] at k1
    simp only [Zl,Zm] at k1
    obtain ⟨cs,rfl,hv⟩:=k1
    have hv:a.eval z=.string y:=hv
    refine Zv.pure st (v':=.int .i64 ((ByteArray.size y:Nat):Int)) ?_ H9
    rw [Ux ho hb,hargs]
    simp only [builtin,Builtin.len_,List.map_toArray,List.map_cons,List.map_nil,hv,ht0,Sem.run_bind]
    simp [run_underlying hu w,goInt]
theorem ALs {x:Opd} (hc:Om o (fun | .len=>true | _=>false) [x]=true) (ht:AL4 P o=true) {R:Type} {K:SV→Option R} {r:R} (hg:ACa h (evO s x) K=some r) :
    ∃ v,K v=some r∧Zv P o a w B w0 A ρ v h:=by
  obtain ⟨c,b,ho,hb,hbb,hx⟩:=Wz hc
  cases b <;> simp at hbb
  simp only [AL4,ho] at ht
  have hx':∃ y,c.args.toList=[y]∧Xj x y=true:=by
    cases hl:c.args.toList with
    | nil=>rw [hl] at hx; simp [Jm] at hx
    | cons y r=>cases r with
      | nil=>rw [hl] at hx; simp [Jm] at hx; exact ⟨y,rfl,hx⟩
      | cons z r=>rw [hl] at hx; simp [Jm] at hx
  obtain ⟨y,hy,hxy⟩:=hx'
  have hargs:c.args = #[y]:=by rw [← Array.toArray_toList (xs:=c.args),hy]
  cases htl:c.argTypes.toList with
  | nil=>simp [htl] at ht
  | cons t tr =>
    simp only [htl] at ht
    have ht0:c.argTypes[0]?=some t:=by rw [← Array.getElem?_toList,htl]; rfl
    have hu:∃ e,P.underlying t=some (.slice e):=by
      split at ht
      · rename_i e he; exact ⟨e,he⟩
      · cases ht
    obtain ⟨e,hu⟩:=hu
    have k1:=X1 hs hxy
    have fin:∀ (ad:Option Addr) (n m:Nat),a.eval y=.slice ad n m→(execOp a.eval o).run P w=.ok (.value (.int .i64 n)) w:=fun ad n m hv=>by
      rw [Ux ho hb,hargs]
      simp only [builtin,Builtin.len_,List.map_toArray,List.map_cons,List.map_nil,hv,ht0,Sem.run_bind]
      simp [run_underlying hu w,goInt]
    unfold ACa at hg
    split at hg
    · rename_i el l e1
      rw [e1] at k1
      simp only [Zl,Zm] at k1
      obtain ⟨cs,⟨ad,n,m,rfl,_,h3⟩,hv⟩:=k1
      have hn:=(h3 (by simp)).1
      subst hn
      exact ⟨_,hg,Zv.pure st (fin ad _ m hv) H9⟩
    · rename_i el l0 g e1
      rw [e1] at k1
      simp only [Zl,Zm] at k1
      obtain ⟨cs,⟨ad,n,m,rfl,h2,_⟩,hv⟩:=k1
      obtain ⟨sp,ad',hr,_,heq,_⟩:=h2 g (by simp)
      have ob:=st.objs g
      split at hg
      · rename_i el' l e2
        rw [e2] at ob
        simp only [Vj,Vy] at ob
        obtain ⟨sp',hr',_,_,_,_,_,hl,_⟩:=ob
        rw [hr] at hr'
        cases hr'
        cases heq
        refine ⟨_,hg,Zv.pure st (fin _ _ _ hv) ?_⟩
        rw [hl]; exact H9
      · rename_i el' l e2
        rw [e2] at ob
        simp only [Vj,Vy] at ob
        obtain ⟨sp',hr',_,_,_,_,_,hl,_⟩:=ob
        rw [hr] at hr'
        cases hr'
        cases heq
        refine ⟨_,hg,Zv.pure st (fin _ _ _ hv) ?_⟩
        rw [hl]; exact H9
      · cases hg
    · rename_i us e1
      rw [e1] at k1
      simp only [Zl] at k1
      obtain ⟨ad,n,m,hv,hn,_⟩:=k1
      subst hn
      exact ⟨_,hg,Zv.pure st (fin _ _ _ hv) H9⟩
    · cases hg
end
end Go.Proofs.YtpemapoblhleoaaGreatDoor.Ghost
namespace Go.Proofs.YtpemapoblhleoaaGreatDoor.Ghost
open Go
mutual
theorem Tf:(τ:Ty)→(p q:Z3)→(x:den τ)→(d:Dyn)→okP τ p→getP p τ x=some d→okP d.τ q→okP τ (p ++ q)∧Q8 τ (p ++ q)=Q8 τ p+Q8 d.τ q
  | τ,[],q,x,d,_,h,hq=>by
    have:d=⟨τ,x⟩:=by cases τ <;> simpa [getP,eq_comm] using h
    subst this
    have h0:Q8 τ []=0:=by cases τ <;> rfl
    exact ⟨hq,by rw [h0,Nat.zero_add]; rfl⟩
  | .st fs,i :: p,q,x,d,hk,h,hq=>by
    simp only [okP] at hk
    simp only [getP] at h
    simp only [List.cons_append,okP,Q8]
    exact C7 fs i p q x d hk h hq
  | .arr n e,i :: p,q,x,d,hk,h,hq=>by
    simp only [okP] at hk
    simp only [getP] at h
    simp only [List.cons_append,okP,Q8]
    have:=Tf e p q _ d hk.2 h hq
    exact ⟨⟨hk.1,this.1⟩,by rw [this.2]; omega⟩
  | .bool,_ :: _,_,_,_,hk,_,_=>by simp [okP] at hk
  | .int _,_ :: _,_,_,_,hk,_,_=>by simp [okP] at hk
  | .str,_ :: _,_,_,_,hk,_,_=>by simp [okP] at hk
  | .sl _,_ :: _,_,_,_,hk,_,_=>by simp [okP] at hk
theorem C7:(fs:List Ty)→(i:Nat)→(p q:Z3)→(x:K2 fs)→(d:Dyn)→okF fs i p →
    (match Gi fs i x with | some d=>getP p d.τ d.x | none=>none)=some d→okP d.τ q→okF fs i (p ++ q)∧Gl fs i (p ++ q)=Gl fs i p+Q8 d.τ q
  | [],_,_,_,_,_,hk,_,_=>by simp [okF] at hk
  | t :: r,0,p,q,x,d,hk,h,hq=>by
    simp only [okF] at hk
    simp only [Gi] at h
    simp only [okF,Gl]
    exact Tf t p q x.1 d hk h hq
  | t :: r,n+1,p,q,x,d,hk,h,hq=>by
    simp only [okF] at hk
    simp only [Gi] at h
    simp only [okF,Gl]
    have:=C7 r n p q x.2 d hk h hq
    exact ⟨this.1,by rw [this.2]; omega⟩
end
theorem Pp {P:Program}:(fs:List Ty)→(l:List Field)→(o j:Nat)→Qw P fs o l=true→j<fs.length →
    ∃ f t,l[j]?=some f∧fs[j]?=some t∧f.offset=o+Gl fs j []∧Jl P f.type (Zj t)=true∧0<Zj t∧Xq P t f.type=true∧okF fs j []
  | [],_,_,_,_,hj=>by simp at hj
  | _ :: _,[],_,_,h,_=>by simp [Qw] at h
  | t :: r,f :: s,o,0,h,_=>by
    simp only [Qw,Bool.and_eq_true] at h
    obtain ⟨⟨⟨⟨h1,h2⟩,h3⟩,h4⟩,_⟩:=h
    have h0:Q8 t []=0:=by cases t <;> rfl
    have k0:okP t []:=by cases t <;> trivial
    exact ⟨f,t,rfl,rfl,by simp only [Gl,h0]; exact Nat.eq_of_beq_eq_true h1,h2,by simpa [Nat.blt_eq] using h3,h4,k0⟩
  | t :: r,f :: s,o,j+1,h,hj=>by
    simp only [Qw,Bool.and_eq_true] at h
    obtain ⟨f',t',h1,h2,h3,h4⟩:=Pp r s (o+Zj t) j h.2 (by simpa using hj)
    exact ⟨f',t',by simpa using h1,by simpa using h2,by simp only [Gl]; omega,h4⟩
theorem A9:(fs:List Ty)→(j:Nat)→(x:K2 fs)→(d:Dyn)→Gi fs j x=some d→fs[j]?=some d.τ
  | [],_,_,_,h=>by simp [Gi] at h
  | t :: r,0,x,d,h=>by simp [Gi] at h; subst h; rfl
  | t :: r,n+1,x,d,h=>by simp only [Gi] at h; simpa using A9 r n x.2 d h
theorem ALk {fs:List Ty} {j:Nat} {x:K2 fs} {d:Dyn} (h:getP [j] (.st fs) x=some d):Gi fs j x=some d:=by
  simp only [getP] at h
  split at h
  · rename_i d' hd
    rw [hd]
    have:getP [] d'.τ d'.x=some d':=by
      obtain ⟨τ,y⟩:=d'
      cases τ <;> rfl
    exact this.symm.trans h
  · cases h
theorem Kx {w:World} {b o:Nat} {cs:List Value} (h:w.rangeAt b o cs) (k n:Nat):w.rangeAt b (o+k) (cut cs k n):=fun j v hv=>by
  rw [Qq] at hv
  split at hv
  · have:=h (k+j) v hv
    rw [show o+(k+j)=o+k+j by omega] at this
    exact this
  · cases hv
theorem ADu (cs:Array Value) (o n:Nat):(cs.extract o (o+n))=(cut cs.toList o n).toArray:=by
  apply Array.ext'
  rw [Array.toList_extract]
  simp [cut]
section
variable {P:Program} {o:Oper} {a:Act} {w:World} {B:Nat} {w0:Y4} {A:Nat→Prop} {ρ:Xb} {own:Nat→Option Nat} {h:Nat→Obj} {s:Nat→SV}
theorem Aq {τ:Ty} {x:den τ} {ov:Ov} {cs:List Value} (hr:Zm A ρ w τ x ov cs) (ha:Gz τ=false):∃ v,cs=[v]:=by
  have:=Zm.length τ hr
  have h1:Zj τ=1:=by cases τ <;> simp [Gz] at ha <;> rfl
  rw [h1] at this
  match cs,this with
  | [v],_=>exact ⟨v,rfl⟩
theorem R8 {τ:Ty} {t:TypeId} {cs:Array Value} {off:Nat} {x:den τ} {ov:Ov} (hd:Xq P τ t=true) (hz:Jl P t (Zj τ)=true)
    (hr:Zm A ρ w τ x ov (cut cs.toList off (Zj τ))):(part t cs off).run P w=.ok (mkV τ (cut cs.toList off (Zj τ))) w:=by
  obtain ⟨d,h1,h2⟩:=Eg hd
  unfold part
  rw [Sem.run_bind,Bn h1 w,Result.andThen_ok,h2]
  cases ha:Gz τ with
  | true =>
    simp only [if_true,Sem.run_bind,J1 hz,Result.andThen_ok,Sem.run_pure,mkV,ha,ADu]
  | false =>
    obtain ⟨v,hv⟩:=Aq hr ha
    have h3:(cut cs.toList off (Zj τ))[0]?=some v:=by rw [hv]; rfl
    rw [Qq] at h3
    split at h3
    · simp only [Nat.add_zero,Array.getElem?_toList] at h3
      simp [h3,mkV,ha,hv]
    · cases h3
def Dz (P:Program) (o:Oper) (τ:Ty) (j:Nat) (x:Opd):Bool:=match o.op with
  | .field T y i=>Nat.beq i j && Xq P τ T && (match τ with | .st _=>true | _=>false) && Xj x y
  | _=>false
theorem AF4 (st:St B w0 A ρ own w h) (hs:Xe A ρ w s a) {τ:Ty} {j:Nat} {x:Opd} (hc:Dz P o τ j x=true) {y:den τ} {ov:Ov} (hx:evO s x=.dat τ y ov)
    {d:Dyn} (hg:getP [j] τ y=some d):Zv P o a w B w0 A ρ (.dat d.τ d.x (Jn [j] ov)) h:=by
  unfold Dz at hc
  split at hc
  · rename_i T z i ho
    simp only [Bool.and_eq_true] at hc
    obtain ⟨⟨⟨hi,hd⟩,hst⟩,hxz⟩:=hc
    have hi:=Nat.eq_of_beq_eq_true hi
    subst hi
    cases τ with
    | st fs =>
      have k1:=X1 hs hxz
      rw [hx] at k1
      simp only [Zl] at k1
      obtain ⟨cs,k1,k2⟩:=k1
      simp only [mkV,Gz] at k2
      have hf:=ALk hg
      have hty:=A9 fs i y d hf
      have hlt:i<fs.length:=(List.getElem?_eq_some_iff.1 hty).1
      simp only [Xq] at hd
      cases hu:P.underlying T with
      | none=>simp [hu] at hd
      | some dd =>
        cases dd with
        | struct l =>
          simp only [hu] at hd
          obtain ⟨f,t,m1,m2,m3,m4,m5,m6,m7⟩:=Pp fs l.toList 0 i hd hlt
          rw [hty] at m2
          cases m2
          have hp:=Zm.getP (.st fs) [i] k1 (by simpa only [okP] using m7) hg
          have m1':l[i]?=some f:=by rw [← Array.getElem?_toList]; exact m1
          have hoff:f.offset=Q8 (.st fs) [i]:=by rw [m3,Nat.zero_add]; rfl
          rw [← hoff] at hp
          have hpart:=R8 (P:=P) (cs:=cs.toArray) (off:=f.offset) m6 m4 (by simpa using hp)
          refine Zv.pure st (v':=mkV d.τ (cut cs f.offset (Zj d.τ))) ?_ (by simp only [Zl]; exact ⟨_,hp,rfl⟩)
          simp only [execOp,ho,k2,Instr.field,Sem.run_bind,run_underlying hu w,Result.andThen_ok,m1',asAgg,Sem.run_pure,hpart]
        | _=>simp [hu] at hd
    | _=>simp at hst
  · cases hc
end
end Go.Proofs.YtpemapoblhleoaaGreatDoor.Ghost
namespace Go.Proofs.YtpemapoblhleoaaGreatDoor.Ghost
open Go
section
variable {P:Program} {o:Oper} {a:Act} {w:World} {B:Nat} {w0:Y4} {A:Nat→Prop} {ρ:Xb} {own:Nat→Option Nat} {h:Nat→Obj} {s:Nat→SV}
def Hs (P:Program):List Nat→Nat→List Field→Bool
  | [],_,[]=>true
  | n :: r,o,f :: s=>Nat.beq f.offset o && Jl P f.type n && Nat.blt 0 n && Hs P r (o+n) s
  | _,_,_=>false
def AQh (P:Program):FT→TypeId→Bool
  | .d (.st fs),t=>Xq P (.st fs) t
  | .d _,_=>false
  | .v sizes,t=>(match P.underlying t with | some (.struct l)=>Hs P sizes 0 l.toList | _=>false)
def Pj (P:Program) (o:Oper) (t:FT) (j:Nat) (x:Opd):Bool:=match o.op with
  | .fieldAddr T y i=>Nat.beq i j && AQh P t T && Xj x y
  | _=>false
def Uy:List Nat→Nat→Nat
  | [],_=>0
  | _ :: _,0=>0
  | n :: r,j+1=>n+Uy r j
theorem P2:(sizes:List Nat)→(l:List Field)→(o j:Nat)→Hs P sizes o l=true→j<sizes.length →
    ∃ f n,l[j]?=some f∧f.offset=o+Uy sizes j∧Jl P f.type n=true∧0<n
  | [],_,_,_,_,hj=>by simp at hj
  | _ :: _,[],_,_,h,_=>by simp [Hs] at h
  | n :: r,f :: s,o,0,h,_=>by
    simp only [Hs,Bool.and_eq_true] at h
    exact ⟨f,n,rfl,by rw [show Uy (n :: r) 0=0 from rfl,Nat.add_zero]; exact Nat.eq_of_beq_eq_true h.1.1.1,h.1.1.2,by simpa [Nat.blt_eq] using h.1.2⟩
  | n :: r,f :: s,o,j+1,h,hj=>by
    simp only [Hs,Bool.and_eq_true] at h
    obtain ⟨f',n',h1,h2,h3⟩:=P2 r s (o+n) j h.2 (by simpa using hj)
    exact ⟨f',n',by simpa using h1,by simp only [Uy]; omega,h3⟩
theorem AFa {T:TypeId} {l:Array Field} {i:Nat} {f:Field} {n b k:Nat} (hu:P.underlying T=some (.struct l)) (hf:l[i]?=some f) (hn:Jl P f.type n=true) (hp:0<n) :
    (Instr.fieldAt T (.pointer (some ⟨b,k,none⟩)) i).run P w=.ok (.pointer (some ⟨b,k+f.offset,none⟩)) w:=by
  have:n≠0:=by omega
  simp only [Instr.fieldAt,Sem.run_bind,run_underlying hu w,Result.andThen_ok,hf,Instr.sureAddr,Sem.run_pure,fieldPlace,J1 hn,this,if_false,Addr.add_mid]
theorem Fr:{a b:List Nat}→X6.natsEq a b=true→a=b
  | [],[],_=>rfl
  | x :: r,y :: s,h=>by
    simp only [X6.natsEq,Bool.and_eq_true] at h
    rw [Nat.eq_of_beq_eq_true h.1,Fr h.2]
theorem Ri:(us:List SV)→(X6.sizesV us).length=us.length
  | []=>rfl
  | _ :: r=>by simp [X6.sizesV,Ri r]
theorem N5:(us:List SV)→(j:Nat)→Gt us j []=Uy (X6.sizesV us) j
  | [],_=>rfl
  | u :: r,0=>by
    have:U6 u []=0:=by cases u <;> rfl
    simp only [Gt,this,X6.sizesV,Uy]
  | u :: r,j+1=>by simp only [Gt,X6.sizesV,Uy,N5 r j]
theorem Ny:(us:List SV)→(j:Nat)→getV.getVL us j []=us[j]?
  | [],_=>by simp [getV.getVL]
  | u :: r,0=>by cases u <;> simp [getV.getVL,getV]
  | u :: r,j+1=>by simp only [getV.getVL,Ny r j]; simp
mutual
theorem Ek:(u:SV)→(p q:Z3)→(x:SV)→getV u p=some x→getV u (p ++ q)=getV x q∧U6 u (p ++ q)=U6 u p+U6 x q
  | u,[],q,x,hg=>by
    have:u=x:=by cases u <;> simpa [getV] using hg
    subst this
    have:U6 u []=0:=by cases u <;> rfl
    exact ⟨rfl,by rw [this,Nat.zero_add]; rfl⟩
  | .agv us,i :: p,q,x,hg=>by
    simp only [getV] at hg
    have:=Lx us i p q x hg
    simpa only [List.cons_append,getV,U6] using this
  | .dat _ _ _,_ :: _,_,_,hg=>by simp [getV] at hg
  | .ptr _ _,_ :: _,_,_,hg=>by simp [getV] at hg
  | .ref _ _,_ :: _,_,_,hg=>by simp [getV] at hg
  | .refv _,_ :: _,_,_,hg=>by simp [getV] at hg
  | .selfc _ _,_ :: _,_,_,hg=>by simp [getV] at hg
  | .glo _,_ :: _,_,_,hg=>by simp [getV] at hg
  | .elp _ _ _,_ :: _,_,_,hg=>by simp [getV] at hg
  | .clo _ _,_ :: _,_,_,hg=>by simp [getV] at hg
  | .tup _,_ :: _,_,_,hg=>by simp [getV] at hg
  | .slv _,_ :: _,_,_,hg=>by simp [getV] at hg
  | .fmap _ _,_ :: _,_,_,hg=>by simp [getV] at hg
  | .nilfn,_ :: _,_,_,hg=>by simp [getV] at hg
  | .und,_ :: _,_,_,hg=>by simp [getV] at hg
  | .junk,_ :: _,_,_,hg=>by simp [getV] at hg
theorem Lx:(us:List SV)→(i:Nat)→(p q:Z3)→(x:SV)→getV.getVL us i p=some x→getV.getVL us i (p ++ q)=getV x q∧Gt us i (p ++ q)=Gt us i p+U6 x q
  | [],_,_,_,_,hg=>by simp [getV.getVL] at hg
  | u :: r,0,p,q,x,hg=>by
    simp only [getV.getVL] at hg
    simpa only [getV.getVL,Gt] using Ek u p q x hg
  | u :: r,n+1,p,q,x,hg=>by
    simp only [getV.getVL] at hg
    have:=Lx r n p q x hg
    simp only [getV.getVL,Gt]
    exact ⟨this.1,by rw [this.2]; omega⟩
end
theorem He {g:Nat} {p:Z3} {v:Value} {sp:Kz} (hv:Zl A ρ w (.ptr g p) v) (hr:ρ g=some sp) (hm:sp.mp=false):sp.ok p∧v=.pointer (some ⟨sp.b,sp.off p,none⟩):=by
  simp only [Zl] at hv
  obtain ⟨s',h1,h2,h3⟩:=hv
  rw [hr] at h1
  cases h1
  rw [hm] at h3
  exact ⟨h2,h3⟩
theorem AGi {g:Nat} {p:Z3} {sp:Kz} (hr:ρ g=some sp) (hm:sp.mp=false) (hk:sp.ok p):Zl A ρ w (.ptr g p) (.pointer (some ⟨sp.b,sp.off p,none⟩)):=by
  simp only [Zl]
  exact ⟨sp,hr,hk,by rw [hm]⟩
theorem Bh {g i:Nat} {p:Z3} {v:Value} {sp:Kz} (hv:Zl A ρ w (.elp g i p) v) (hr:ρ g=some sp):i<sp.len∧sp.ok p∧v=.pointer (some ⟨sp.b,i * sp.es+sp.off p,none⟩):=by
  simp only [Zl] at hv
  obtain ⟨s',h1,_,h2,h3,h4⟩:=hv
  rw [hr] at h1
  cases h1
  exact ⟨h2,h3,h4⟩
variable (st:St B w0 A ρ own w h) (hs:Xe A ρ w s a)
include st hs
theorem Cu {t:FT} {j:Nat} {x:Opd} (hc:Pj P o t j x=true) {R:Type} {K:SV→Option R} {r:R} (hg:X6 h t j (evO s x) K=some r) :
    ∃ v,K v=some r∧Zv P o a w B w0 A ρ v h:=by
  unfold Pj at hc
  split at hc
  case h_2=>cases hc
  rename_i T y i ho
  simp only [Bool.and_eq_true] at hc
  obtain ⟨⟨hi,hT⟩,hxy⟩:=hc
  have hi:=Nat.eq_of_beq_eq_true hi
  subst hi
  have k1:=X1 hs hxy
  have fin:∀ (l:Array Field) (f:Field) (n b k:Nat) (v:SV),P.underlying T=some (.struct l)→l[i]?=some f→Jl P f.type n=true→0<n→a.eval y=.pointer (some ⟨b,k,none⟩) →
      Zl A ρ w v (.pointer (some ⟨b,k+f.offset,none⟩))→Zv P o a w B w0 A ρ v h:=fun l f n b k v h1 h2 h3 h4 h5 h6 =>
    Zv.pure st (by simp only [execOp,ho,h5,Sem.run_bind,AFa h1 h2 h3 h4,Result.andThen_ok,Sem.run_pure]) h6
  unfold X6 at hg
  cases t with
  | d σ =>
    cases σ with
    | st fs =>
      simp only [AQh] at hT
      have hd:=hT
      simp only [Xq] at hT
      cases hu:P.underlying T with
      | none=>simp [hu] at hT
      | some dd =>
        cases dd with
        | struct l =>
          simp only [hu] at hT
          simp only [] at hg
          cases hj:Nat.blt i fs.length with
          | false=>rw [hj] at hg; simp at hg
          | true =>
            rw [hj] at hg
            simp only [cond_true] at hg
            obtain ⟨f,t,m1,m2,m3,m4,m5,m6,m7⟩:=Pp fs l.toList 0 i hT (by simpa [Nat.blt_eq] using hj)
            have m1':l[i]?=some f:=by rw [← Array.getElem?_toList]; exact m1
            have hoff:f.offset=Q8 (.st fs) [i]:=by rw [m3,Nat.zero_add]; rfl
            have hok:okP (.st fs) [i]:=by simpa only [okP] using m7
            have box:∀ (g:Nat) (p:Z3) (τ:Ty) (z:den τ) (ov:Ov) (M:Kz→List Value→Prop),evO s x=.ptr g p→Wu A ρ w g τ z ov M →
                X6.fld τ z p (.st fs) (K (.ptr g (p ++ [i])))=some r→∃ v,K v=some r∧Zv P o a w B w0 A ρ v h:=fun g p τ z ov M hx hb hf=>by
              obtain ⟨sp,cs,n1,n2,n3,n4,_,_⟩:=hb
              rw [hx] at k1
              obtain ⟨q1,q2⟩:=He k1 n1 n2
              rw [n4] at q1
              unfold X6.fld at hf
              split at hf
              · rename_i d hd'
                split at hf
                · rename_i pl _
                  obtain ⟨dτ,dx⟩:=d
                  have hdt:dτ=.st fs:=pl.down
                  subst hdt
                  have:=Tf τ p [i] z ⟨.st fs,dx⟩ q1 hd' hok
                  refine ⟨_,hf,fin l f _ _ _ _ hu m1' m4 m5 q2 ?_⟩
                  have e:sp.off p+f.offset=sp.off (p ++ [i]):=by rw [n3,this.2,hoff]
                  rw [e]
                  exact AGi n1 n2 (by rw [n4]; exact this.1)
                · cases hf
              · cases hf
            have arr:∀ (g k:Nat) (p:Z3) (e:Ty) (z:List (den e)) (M:Kz→List Value→Prop),evO s x=.elp g k p→Vy A ρ w g e z M →
                X6.fld e (dft e) p (.st fs) (K (.elp g k (p ++ [i])))=some r→∃ v,K v=some r∧Zv P o a w B w0 A ρ v h:=fun g k p e z M hx hb hf=>by
              obtain ⟨sp,n1,n2,n3,n4,n5,n6,_⟩:=hb
              rw [hx] at k1
              obtain ⟨q0,q1,q2⟩:=Bh k1 n1
              rw [n6] at q1
              unfold X6.fld at hf
              split at hf
              · rename_i d hd'
                split at hf
                · rename_i pl _
                  obtain ⟨dτ,dx⟩:=d
                  have hdt:dτ=.st fs:=pl.down
                  subst hdt
                  have:=Tf e p [i] (dft e) ⟨.st fs,dx⟩ q1 hd' hok
                  refine ⟨_,hf,fin l f _ _ _ _ hu m1' m4 m5 q2 ?_⟩
                  have e':k * sp.es+sp.off p+f.offset=k * sp.es+sp.off (p ++ [i]):=by rw [n5,this.2,hoff]; exact Nat.add_assoc _ _ _
                  rw [e']
                  simp only [Zl]
                  exact ⟨sp,n1,n2,q0,by rw [n6]; exact this.1,rfl⟩
                · cases hf
              · cases hf
            split at hg
            · rename_i g p hx
              have ob:=st.objs g
              split at hg
              · rename_i τ z ov hh; rw [hh] at ob; exact box g p τ z ov _ hx ob hg
              · rename_i τ z ov hh; rw [hh] at ob; exact box g p τ z ov _ hx ob hg
              · cases hg
            · rename_i g k p hx
              have ob:=st.objs g
              split at hg
              · rename_i e z hh; rw [hh] at ob; exact arr g k p e z _ hx ob hg
              · rename_i e z hh; rw [hh] at ob; exact arr g k p e z _ hx ob hg
              · cases hg
            · rename_i τ z hx
              split at hg
              · rename_i pl d _ hd'
                have hτ:τ=.st fs:=pl.down
                subst hτ
                rw [hx] at k1
                simp only [Zl] at k1
                obtain ⟨b,k,cs,q1,q2,q3,q4⟩:=k1
                have hp:=Zm.getP (.st fs) [i] q4 hok hd'
                refine ⟨_,hg,fin l f _ _ _ _ hu m1' m4 m5 q1 ?_⟩
                simp only [Zl]
                refine ⟨b,k+f.offset,_,rfl,q2,?_,Zm.ov d.τ (fun e => ?_) hp⟩
                · rw [hoff]; exact Kx q3 _ _
                · obtain ⟨q,oo⟩:=e
                  rw [Y6]; simp
              · cases hg
            · cases hg
        | _=>simp [hu] at hT
    | _=>simp [AQh] at hT
  | v sizes =>
    simp only [AQh] at hT
    simp only [] at hg
    cases hu:P.underlying T with
    | none=>simp [hu] at hT
    | some dd =>
      cases dd with
      | struct l =>
        simp only [hu] at hT
        have boxv:∀ (g:Nat) (p:Z3) (u:SV) (M:Kz→List Value→Prop),evO s x=.ptr g p→Uj A ρ w g u M →
            X6.fldV u p sizes i (K (.ptr g (p ++ [i])))=some r→∃ v,K v=some r∧Zv P o a w B w0 A ρ v h:=fun g p u M hx hb hf=>by
          obtain ⟨sp,v,n1,n2,n3,n4,_⟩:=hb
          rw [hx] at k1
          obtain ⟨q1,q2⟩:=He k1 n1 n2
          unfold X6.fldV at hf
          split at hf
          · rename_i us hus
            cases hcc:X6.natsEq (X6.sizesV us) sizes && Nat.blt i sizes.length with
            | false=>rw [hcc] at hf; simp at hf
            | true =>
              rw [hcc] at hf
              simp only [cond_true] at hf
              simp only [Bool.and_eq_true] at hcc
              have he:=Fr hcc.1
              subst he
              obtain ⟨f,n,m1,m2,m3,m4⟩:=P2 _ l.toList 0 i hT (by simpa [Nat.blt_eq] using hcc.2)
              have m1':l[i]?=some f:=by rw [← Array.getElem?_toList]; exact m1
              have happ:=Ek u p [i] (.agv us) hus
              refine ⟨_,hf,fin l f n _ _ _ hu m1' m3 m4 q2 ?_⟩
              have e':sp.off p+f.offset=sp.off (p ++ [i]):=by
                rw [n3,happ.2,m2,Nat.zero_add]; simp only [U6,N5]
              rw [e']
              refine AGi n1 n2 ?_
              rw [n4]
              unfold okV
              rw [happ.1]
              simp only [getV,Ny]
              have hlt:i<us.length:=by
                have:=hcc.2
                rw [Nat.blt_eq,Ri] at this
                exact this
              exact ⟨us[i],List.getElem?_eq_getElem hlt⟩
          · cases hf
        split at hg
        · rename_i us hx
          split at hg
          · rename_i u hcc hu'
            have he:=Fr hcc
            subst he
            have hlt:i<us.length:=(List.getElem?_eq_some_iff.1 hu').1
            obtain ⟨f,n,m1,m2,m3,m4⟩:=P2 _ l.toList 0 i hT (by rw [Ri]; exact hlt)
            have m1':l[i]?=some f:=by rw [← Array.getElem?_toList]; exact m1
            rw [hx] at k1
            simp only [Zl] at k1
            obtain ⟨b,k,v,q1,q2,q3,vs,rfl,q4,q5⟩:=k1
            obtain ⟨v',w1,w2⟩:=Zp.getV us q4 q5 (i:=i) (p:=[]) (x:=u) (by rw [Ny]; exact hu')
            refine ⟨_,hg,fin l f n _ _ _ hu m1' m3 m4 q1 ?_⟩
            simp only [Zl]
            refine ⟨b,k+f.offset,v',rfl,q2,?_,w1⟩
            rw [w2,m2,Nat.zero_add,← N5]
            exact Kx q3 _ _
          · cases hg
        · rename_i g p hx
          have ob:=st.objs g
          split at hg
          · rename_i u hh; rw [hh] at ob; exact boxv g p u _ hx ob hg
          · rename_i u hh; rw [hh] at ob; exact boxv g p u _ hx ob hg
          · cases hg
        · cases hg
      | _=>simp [hu] at hT
end
end Go.Proofs.YtpemapoblhleoaaGreatDoor.Ghost
namespace Go.Proofs.YtpemapoblhleoaaGreatDoor.Ghost
open Go
section
variable {P:Program} {o:Oper} {a:Act} {w:World} {B:Nat} {w0:Y4} {A:Nat→Prop} {ρ:Xb} {own:Nat→Option Nat} {h:Nat→Obj} {s:Nat→SV}
theorem L3 {R:Type} {n:Int} {m:Nat} {K:Nat→Option R} {r:R} (hg:inB n m K=some r):0≤n∧n<(m:Int)∧K n.toNat=some r:=by
  unfold inB at hg
  split at hg
  · rename_i hn; exact ⟨hn.1,hn.2,hg⟩
  · cases hg
def AQr (P:Program):IT→TypeId→Bool
  | .sl e,t=>Xq P (.sl e) t
  | .arr n e,t=>Xq P (.arr n e) t
  | .slv n,t=>(match P.underlying t with | some (.slice e)=>Jl P e n | _=>false)
def D0 (P:Program) (o:Oper) (t:IT) (x i:Opd):Bool:=match o.op with
  | .indexAddr T y z=>AQr P t T && Xj x y && Xj i z
  | _=>false
theorem Th {T e:TypeId} {sz b k len cap:Nat} {kd:IntKind} {n:Int} (hu:P.underlying T=some (.slice e)) (hz:Jl P e sz=true) (h0:0≤n) (h1:n<(len:Int)) :
    (Instr.indexAt T (.slice (some ⟨b,k,none⟩) len cap) (.int kd n)).run P w=.ok (.pointer (some ⟨b,k+n.toNat * sz,none⟩)) w:=by
  simp only [Instr.indexAt,asIntOf,Sem.run_bind,Sem.run_pure,Result.andThen_ok,run_underlying hu w,h0,h1,and_self,if_true,J1 hz,Addr.add_mid]
theorem Oa {T e:TypeId} {sz b k len:Nat} {kd:IntKind} {n:Int} (hu:P.underlying T=some (.array len e)) (hz:Jl P e sz=true) (h0:0≤n) (h1:n<(len:Int)) :
    (Instr.indexAt T (.pointer (some ⟨b,k,none⟩)) (.int kd n)).run P w=.ok (.pointer (some ⟨b,k+n.toNat * sz,none⟩)) w:=by
  simp only [Instr.indexAt,asIntOf,Instr.sureAddr,Sem.run_bind,Sem.run_pure,Result.andThen_ok,run_underlying hu w,h0,h1,and_self,if_true,J1 hz,Addr.add_mid]
theorem Fc {e:Ty} {t:TypeId} (hd:Xq P (.sl e) t=true):∃ e',P.underlying t=some (.slice e')∧Xq P e e'=true∧Jl P e' (Zj e)=true∧0<Zj e:=by
  simp only [Xq] at hd
  split at hd
  · rename_i e' he
    simp only [Bool.and_eq_true] at hd
    exact ⟨e',he,hd.1.1,hd.1.2,by simpa [Nat.blt_eq] using hd.2⟩
  · cases hd
theorem W8 {n:Nat} {e:Ty} {t:TypeId} (hd:Xq P (.arr n e) t=true):∃ e',P.underlying t=some (.array n e')∧Xq P e e'=true∧Jl P e' (Zj e)=true∧0<Zj e:=by
  simp only [Xq] at hd
  split at hd
  · rename_i n' e' he
    simp only [Bool.and_eq_true] at hd
    have:=Nat.eq_of_beq_eq_true hd.1.1.1
    subst this
    exact ⟨e',he,hd.1.1.2,hd.1.2,by simpa [Nat.blt_eq] using hd.2⟩
  · cases hd
theorem Bv {z:Nat}:(us:List SV)→(j:Nat)→(∀ u,u∈us→Q9 u=z)→j≤us.length→Uy (X6.sizesV us) j=j * z
  | [],j,_,hj=>by simp at hj; subst hj; simp [X6.sizesV,Uy]
  | u :: r,0,_,_=>by simp [X6.sizesV,Uy]
  | u :: r,j+1,h,hj=>by
    simp only [X6.sizesV,Uy,Bv r j (fun u hu=>h u (by simp [hu])) (by simpa using hj),h u (by simp),Nat.add_mul,Nat.one_mul]
    omega
variable (st:St B w0 A ρ own w h) (hs:Xe A ρ w s a)
include st hs
theorem AF5 {t:IT} {x i:Opd} (hc:D0 P o t x i=true) {R:Type} {K:SV→Option R} {r:R} (hg:G5 t h (evO s x) (evO s i) K=some r) :
    ∃ v,K v=some r∧Zv P o a w B w0 A ρ v h:=by
  unfold D0 at hc
  split at hc
  case h_2=>cases hc
  rename_i T y z ho
  simp only [Bool.and_eq_true] at hc
  obtain ⟨⟨hT,hx⟩,hi⟩:=hc
  have k1:=X1 hs hx
  have k2:=X1 hs hi
  have fin:∀ (v':Value) (v:SV),(Instr.indexAt T (a.eval y) (a.eval z)).run P w=.ok v' w→Zl A ρ w v v'→Zv P o a w B w0 A ρ v h:=fun v' v h1 h2 =>
    Zv.pure st (by simp only [execOp,ho,Sem.run_bind,h1,Result.andThen_ok,Sem.run_pure]) h2
  unfold G5 at hg
  split at hg
  case h_2=>cases hg
  rename_i kd n ovi hin
  rw [hin] at k2
  have k2:=Hr k2
  rw [k2] at fin
  cases t with
  | sl σ =>
    simp only [AQr] at hT
    obtain ⟨e',u1,u2,u3,u4⟩:=Fc hT
    simp only [] at hg
    have own:∀ (e:Ty) (l0:List (den e)) (g:Nat) (e1:Ty) (l:List (den e1)) (M:Kz→List Value→Prop),evO s x=.dat (.sl e) l0 [([],some g)]→Vy A ρ w g e1 l M →
        (match Kl e1 σ with | some _=>inB n l.length fun j=>K (.elp g j []) | none=>none)=some r→∃ v,K v=some r∧Zv P o a w B w0 A ρ v h:=fun e l0 g e1 l M hx' hb hf=>by
      obtain ⟨sp,n1,n2,n3,n4,n5,n6,n7,n8,n9⟩:=hb
      rw [hx'] at k1
      simp only [Zl,Zm] at k1
      obtain ⟨cs,⟨ad,len,cap,rfl,q2,_⟩,hv⟩:=k1
      obtain ⟨sp',ad',w1,_,w2,w3⟩:=q2 g (by simp)
      rw [n1] at w1
      cases w1
      cases w2
      split at hf
      · rename_i pl _
        have:=pl.down
        subst this
        obtain ⟨i0,i1,i2⟩:=L3 hf
        rw [n7] at i1
        have hcap:0<sp.cap:=by omega
        have:=w3 hcap
        subst this
        refine ⟨_,i2,fin _ _ (by rw [hv]; exact Th u1 u3 i0 i1) ?_⟩
        simp only [Zl]
        refine ⟨sp,n1,n2,by omega,by rw [n6]; cases e1 <;> trivial,?_⟩
        have h0:Q8 e1 []=0:=by cases e1 <;> rfl
        rw [n5,h0,n3,Nat.zero_add,Nat.add_zero]
      · cases hf
    split at hg
    · rename_i e l hx'
      rw [hx'] at k1
      simp only [Zl,Zm] at k1
      obtain ⟨cs,⟨ad,len,cap,rfl,_,q3⟩,hv⟩:=k1
      split at hg
      · rename_i pl _
        have:=pl.down
        subst this
        obtain ⟨i0,i1,i2⟩:=L3 hg
        obtain ⟨q4,q5⟩:=q3 (by simp)
        subst q4
        obtain ⟨b,k,ds,rfl,w1,w2,w3,w4⟩:=q5 (by omega)
        refine ⟨_,i2,fin _ _ (by rw [hv]; exact Th u1 u3 i0 i1) ?_⟩
        simp only [Zl]
        exact ⟨b,_,_,rfl,w1,Kx w2 _ _,w4 n.toNat (by omega)⟩
      · cases hg
    · rename_i e l0 g hx'
      have ob:=st.objs g
      split at hg
      · rename_i e1 l hh; rw [hh] at ob; exact own e l0 g e1 l _ hx' ob hg
      · rename_i e1 l hh; rw [hh] at ob; exact own e l0 g e1 l _ hx' ob hg
      · cases hg
    · cases hg
  | arr M σ =>
    simp only [AQr] at hT
    obtain ⟨e',u1,u2,u3,u4⟩:=W8 hT
    simp only [] at hg
    have box:∀ (g:Nat) (p:Z3) (τ:Ty) (q:den τ) (ov:Ov) (M':Kz→List Value→Prop),evO s x=.ptr g p→Wu A ρ w g τ q ov M' →
        G5.arrAt τ q p M σ n (fun j=>K (.ptr g (p ++ [j])))=some r→∃ v,K v=some r∧Zv P o a w B w0 A ρ v h:=fun g p τ q ov M' hx' hb hf=>by
      obtain ⟨sp,cs,n1,n2,n3,n4,_,_⟩:=hb
      rw [hx'] at k1
      obtain ⟨q1,q2⟩:=He k1 n1 n2
      rw [n4] at q1
      unfold G5.arrAt at hf
      split at hf
      · rename_i N e dx hd'
        split at hf
        · rename_i pl _ hN
          have:=pl.down
          subst this
          have hN:=Nat.eq_of_beq_eq_true hN
          subst hN
          obtain ⟨i0,i1,i2⟩:=L3 hf
          have hlt:n.toNat<N:=by omega
          have h0:Q8 e []=0:=by cases e <;> rfl
          have:=Tf τ p [n.toNat] q ⟨.arr N e,dx⟩ q1 hd' ⟨hlt,by cases e <;> trivial⟩
          refine ⟨_,i2,fin _ _ (by rw [q2]; exact Oa u1 u3 i0 i1) ?_⟩
          have e':sp.off p+n.toNat * Zj e=sp.off (p ++ [n.toNat]):=by
            rw [n3,this.2]; simp only [Q8,h0,Nat.add_zero]
          rw [e']
          exact AGi n1 n2 (by rw [n4]; exact this.1)
        · cases hf
      · cases hf
    split at hg
    · rename_i N e l hx'
      split at hg
      · rename_i pl _ hN
        have:=pl.down
        subst this
        have hN:=Nat.eq_of_beq_eq_true hN
        subst hN
        obtain ⟨i0,i1,i2⟩:=L3 hg
        rw [hx'] at k1
        simp only [Zl,Zm] at k1
        obtain ⟨b,k,cs,q1,q2,q3,q4,q5,q6⟩:=k1
        have hlt:n.toNat<N:=by omega
        refine ⟨_,i2,fin _ _ (by rw [q1]; exact Oa u1 u3 i0 i1) ?_⟩
        simp only [Zl]
        exact ⟨b,_,_,rfl,q2,Kx q3 _ _,q6 n.toNat hlt⟩
      · cases hg
    · rename_i g p hx'
      have ob:=st.objs g
      split at hg
      · rename_i τ q ov hh; rw [hh] at ob; exact box g p τ q ov _ hx' ob hg
      · rename_i τ q ov hh; rw [hh] at ob; exact box g p τ q ov _ hx' ob hg
      · cases hg
    · cases hg
  | slv sz =>
    simp only [AQr] at hT
    simp only [] at hg
    cases hu:P.underlying T with
    | none=>simp [hu] at hT
    | some dd =>
      cases dd with
      | slice e' =>
        simp only [hu] at hT
        split at hg
        · rename_i us hx'
          split at hg
          · rename_i j _
            split at hg
            · rename_i u hu'
              split at hg
              · rename_i hsz
                have hsz:=Nat.eq_of_beq_eq_true hsz
                rw [hx'] at k1
                simp only [Zl] at k1
                obtain ⟨ad,len,cap,q1,q2,vs,q3,q4,⟨zz,q5⟩,q6⟩:=k1
                have hlt:j<us.length:=(List.getElem?_eq_some_iff.1 hu').1
                obtain ⟨b,k,rfl,w1,w2⟩:=q6 (by omega)
                have hzz:zz=sz:=by rw [← q5 u (List.mem_of_getElem? hu')]; exact hsz
                subst hzz
                obtain ⟨v',v1,v2⟩:=Zp.getV us q3 q4 (i:=j) (p:=[]) (x:=u) (by rw [Ny]; exact hu')
                refine ⟨_,hg,fin _ _ (by rw [q1]; exact Th (n:=(j:Int)) hu hT (by omega) (by omega)) ?_⟩
                simp only [Zl]
                refine ⟨b,_,v',rfl,w1,?_,v1⟩
                rw [v2,N5,Bv us j q5 (by omega)]
                exact Kx w2 _ _
              · cases hg
            · cases hg
          · cases hg
        · cases hg
      | _=>simp [hu] at hT
end
end Go.Proofs.YtpemapoblhleoaaGreatDoor.Ghost
