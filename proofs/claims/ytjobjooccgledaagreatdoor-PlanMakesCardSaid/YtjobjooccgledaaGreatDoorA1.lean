/- The ghost semantics, and memory as it has it. Conditions: none. -/
import GoSem.Dispatch
import Derived.Deep.MidRow
import Derived.Below
import Derived.Orders
set_option linter.unusedVariables false
set_option linter.unusedSimpArgs false
set_option linter.unusedSectionVars false
set_option linter.unnecessarySimpa false
namespace Go.Proofs.YtjobjooccgledaaGreatDoor.Ghost
open Go
inductive Ty where
  | bool | int (k:IntKind) | str
  | sl (e:Ty) | arr (n:Nat) (e:Ty) | st (fs:List Ty)
mutual
@[reducible] def den:Ty→Type
  | .bool=>Bool
  | .int _=>Int
  | .str=>ByteArray
  | .sl e=>List (den e)
  | .arr _ e=>List (den e)
  | .st fs=>K7 fs
@[reducible] def K7:List Ty→Type
  | []=>Unit
  | t :: r=>den t×K7 r
end
mutual
def dft:(t:Ty)→den t
  | .bool=>false
  | .int _=>(0:Int)
  | .str=>(⟨#[]⟩:ByteArray)
  | .sl _=>[]
  | .arr n e=>List.replicate n (dft e)
  | .st fs=>BG9 fs
def BG9:(l:List Ty)→K7 l
  | []=>()
  | t :: r=>(dft t,BG9 r)
end
mutual
def Zj:Ty→Nat
  | .st fs=>Gi fs
  | .arr n e=>n * Zj e
  | _=>1
def Gi:List Ty→Nat
  | []=>0
  | t :: r=>Zj t+Gi r
end
structure Dyn where
  τ:Ty
  x:den τ
abbrev Z8:=List Nat
def Gs:(l:List Ty)→Nat→K7 l→Option Dyn
  | [],_,_=>none
  | t :: _,0,x=>some ⟨t,x.1⟩
  | _ :: r,n+1,x=>Gs r n x.2
def getP:Z8→(τ:Ty)→den τ→Option Dyn
  | [],τ,x=>some ⟨τ,x⟩
  | i :: p,.st fs,x=>match Gs fs i x with
    | some d=>getP p d.τ d.x
    | none=>none
  | i :: p,.arr _ e,x=>getP p e (List.getD x i (dft e))
  | _ :: _,_,_=>none
mutual
def Kp:(a b:Ty)→Option (PLift (a=b))
  | .bool,.bool=>some ⟨rfl⟩
  | .int k,.int k'=>if h:k=k' then some ⟨by rw [h]⟩ else none
  | .str,.str=>some ⟨rfl⟩
  | .sl a,.sl b=>match Kp a b with | some ⟨h⟩=>some ⟨by rw [h]⟩ | none=>none
  | .arr n a,.arr m b=>if hn:n=m then match Kp a b with | some ⟨h⟩=>some ⟨by rw [h,hn]⟩ | none=>none else none
  | .st a,.st b=>match As a b with | some ⟨h⟩=>some ⟨by rw [h]⟩ | none=>none
  | _,_=>none
def As:(a b:List Ty)→Option (PLift (a=b))
  | [],[]=>some ⟨rfl⟩
  | a :: r,b :: s=>match Kp a b with
    | some ⟨h⟩=>match As r s with
      | some ⟨h'⟩=>some ⟨by rw [h,h']⟩
      | none=>none
    | none=>none
  | _,_=>none
end
def Jc (a b:Ty) (x:den a):Option (den b):=match Kp a b with
  | some ⟨h⟩=>some (h ▸ x)
  | none=>none
mutual
def Ko:(l:List Ty)→Nat→Z8→K7 l→Dyn→Option (K7 l)
  | [],_,_,_,_=>none
  | t :: _,0,p,x,d=>match setP t p x.1 d with
    | some y=>some (y,x.2)
    | none=>none
  | _ :: r,n+1,p,x,d=>match Ko r n p x.2 d with
    | some y=>some (x.1,y)
    | none=>none
def setP:(t:Ty)→Z8→den t→Dyn→Option (den t)
  | t,[],_,d=>Jc d.τ t d.x
  | .st fs,i :: p,x,d=>Ko fs i p x d
  | .arr _ e,i :: p,x,d=>match setP e p (List.getD x i (dft e)) d with
    | some y=>some (List.set x i y)
    | none=>none
  | _,_ :: _,_,_=>none
end
def Z5:Z8→Z8→Bool
  | [],[]=>true
  | i :: p,j :: q=>Nat.beq i j && Z5 p q
  | _,_=>false
inductive SV where
  | dat (τ:Ty) (x:den τ) (ov:List (Z8×Option Nat))
  | ptr (g:Nat) (p:Z8)
  | ref (τ:Ty) (x:den τ)
  | refv (v:SV)
  | selfc (f:FuncId) (caps:List SV)
  | glo (k:Nat)
  | elp (g i:Nat) (p:Z8)
  | clo (f:FuncId) (caps:List SV)
  | tup (vs:List SV)
  | slv (vs:List SV)
  | fmap (ks:List Int) (vs:List SV)
  | agv (vs:List SV)
  | nilfn
  | und
  | junk
inductive Obj where
  | box (τ:Ty) (x:den τ) (ov:List (Z8×Option Nat))
  | boxv (v:SV)
  | fbox (τ:Ty) (x:den τ) (ov:List (Z8×Option Nat))
  | fboxv (v:SV)
  | arr (e:Ty) (l:List (den e))
  | frz (e:Ty) (l:List (den e))
  | map (k v:Ty) (l:List (den k×den v))
  | hid
  | dead
  | none
abbrev Yj:=List Obj
abbrev Xk:=List (Nat×SV)
def Xn:Yj→Nat→Obj
  | [],_=>.none
  | o :: _,0=>o
  | _ :: r,n+1=>Xn r n
def R7:Yj→Nat→Obj→Yj
  | [],0,o=>[o]
  | [],n+1,o=>.none :: R7 [] n o
  | _ :: r,0,o=>o :: r
  | x :: r,n+1,o=>x :: R7 r n o
def Xu:Xk→Nat→SV
  | [],_=>.junk
  | (i,v) :: r,j=>match Nat.beq i j with | true=>v | false=>Xu r j
def M5:Xk→Nat→SV→Xk
  | [],j,x=>[(j,x)]
  | (i,v) :: r,j,x=>match Nat.beq i j with | true=>(i,x) :: r | false=>(i,v) :: M5 r j x
def El (s:Xk):Option Nat→SV→Xk
  | none,_=>s
  | some d,v=>M5 s d v
def Le (k:List Nat):Xk→Xk
  | []=>[]
  | (i,v) :: r=>match k.any (Nat.beq i) with | true=>Le k r | false=>(i,v) :: Le k r
def H0:Z8→Z8→Option Z8
  | [],q=>some q
  | i :: p,j :: q=>match Nat.beq i j with | true=>H0 p q | false=>none
  | _ :: _,[]=>none
def Jv (p:Z8):List (Z8×Option Nat)→List (Z8×Option Nat)
  | []=>[]
  | (q,g) :: r=>match H0 p q with | some q'=>(q',g) :: Jv p r | none=>Jv p r
def Oq (p:Z8):List (Z8×Option Nat)→List (Z8×Option Nat)
  | []=>[]
  | (q,g) :: r=>match H0 p q with | some _=>Oq p r | none=>(q,g) :: Oq p r
def Dk (p:Z8):List (Z8×Option Nat)→List (Z8×Option Nat)
  | []=>[]
  | (q,g) :: r=>(p ++ q,g) :: Dk p r
def ANy:Z8→Z8→Bool
  | [],[]=>false
  | [],_ :: _=>true
  | _ :: _,[]=>false
  | i :: p,j :: q=>Nat.blt i j || Nat.beq i j && ANy p q
def AFp (e:Z8×Option Nat):List (Z8×Option Nat)→List (Z8×Option Nat)
  | []=>[e]
  | x :: r=>match ANy e.1 x.1 with | true=>e :: x :: r | false=>x :: AFp e r
def Mx:List (Z8×Option Nat)→List (Z8×Option Nat)→List (Z8×Option Nat)
  | [],ov=>ov
  | e :: r,ov=>Mx r (AFp e ov)
def getV:SV→Z8→Option SV
  | v,[]=>some v
  | .agv vs,i :: p=>getVL vs i p
  | _,_ :: _=>none
where getVL:List SV→Nat→Z8→Option SV
  | [],_,_=>none
  | v :: _,0,p=>getV v p
  | _ :: r,n+1,p=>getVL r n p
def resolve (h:Nat→Obj) (τ:Ty) (x:den τ):List (Z8×Option Nat)→Option (den τ)
  | []=>some x
  | (q,some g) :: r=>match h g with
    | .arr e l=>match setP τ q x ⟨.sl e,l⟩ with
      | some y=>resolve h τ y r
      | none=>none
    | .frz e l=>match setP τ q x ⟨.sl e,l⟩ with
      | some y=>resolve h τ y r
      | none=>none
    | _=>none
  | (_,none) :: _=>none
def Iw:den (.arr 11 .str):=[(⟨#[]⟩:ByteArray),(⟨#[109,111,118,101]⟩:ByteArray),(⟨#[112,117,115,104]⟩:ByteArray),(⟨#[103,101,116]⟩:ByteArray),(⟨#[100,114,111,112]⟩:ByteArray),(⟨#[112,117,116]⟩:ByteArray),(⟨#[116,97,107,101]⟩:ByteArray),(⟨#[103,105,118,101]⟩:ByteArray),(⟨#[116,114,97,100,101]⟩:ByteArray),(⟨#[108,111,111,107]⟩:ByteArray),(⟨#[111,119,110]⟩:ByteArray)]
def Ix:den (.arr 4 .str):=[(⟨#[110,111,114,116,104]⟩:ByteArray),(⟨#[101,97,115,116]⟩:ByteArray),(⟨#[115,111,117,116,104]⟩:ByteArray),(⟨#[119,101,115,116]⟩:ByteArray)]
def AEt:Nat→Option Dyn:=fun k=>match k with
  | 1=>some ⟨(.arr 11 .str),Iw⟩
  | 2=>some ⟨(.arr 4 .str),Ix⟩
  | _=>none
def AGu:Nat→Option (List Int×List FuncId):=fun k=>match k with
  | 0=>some ([0,1,2],[131,129,132])
  | _=>none
def AGw {R:Type} (o:Option Dyn) (M:Nat) (σ:Ty) (K:(l:List (den σ))→Option R):Option R:=match o with
  | some ⟨.arr N e,l⟩=>(match Kp e σ,Nat.beq N M with | some ⟨h⟩,true=>K (h ▸ l) | _,_=>none)
  | _=>none
inductive Opd where
  | t (i:Nat)
  | g (k:Nat)
  | c (τ:Ty) (x:den τ)
  | f (f:FuncId)
  | nf
def evO (s:Nat→SV):Opd→SV
  | .t i=>s i
  | .g k=>.glo k
  | .c τ x=>.dat τ x []
  | .f f=>.clo f []
  | .nf=>.nilfn
inductive Sh where
  | d (τ:Ty)
  | ref (τ:Ty)
  | refv (s:Sh)
  | selfc (f:FuncId) (l:List Sh)
  | clo (f:FuncId) (l:List Sh)
  | nilfn
  | agv (l:List Sh)
  | slv (l:List Sh)
  | fmap (ks:List Int) (l:List Sh)
mutual
@[reducible] def dSh:Sh→Type
  | .d τ=>den τ
  | .ref τ=>den τ
  | .refv s=>dSh s
  | .selfc _ l=>Xc l
  | .clo _ l=>Xc l
  | .nilfn=>Unit
  | .agv l=>Xc l
  | .slv l=>Xc l
  | .fmap _ l=>Xc l
@[reducible] def Xc:List Sh→Type
  | []=>Unit
  | s :: r=>dSh s×Xc r
end
mutual
def inj:(s:Sh)→dSh s→SV
  | .d τ,x=>.dat τ x []
  | .ref τ,x=>.ref τ x
  | .refv s,x=>.refv (inj s x)
  | .selfc f l,x=>.selfc f (V5 l x)
  | .clo f l,x=>.clo f (V5 l x)
  | .nilfn,_=>.nilfn
  | .agv l,x=>.agv (V5 l x)
  | .slv l,x=>.slv (V5 l x)
  | .fmap ks l,x=>.fmap ks (V5 l x)
def V5:(l:List Sh)→Xc l→List SV
  | [],_=>[]
  | s :: r,x=>inj s x.1 :: V5 r x.2
end
def AA6:List Int→List Int→Bool
  | [],[]=>true
  | a :: r,b :: s=>(a == b) && AA6 r s
  | _,_=>false
mutual
def prj:(s:Sh)→SV→Option (dSh s)
  | .d τ,.dat σ x []=>Jc σ τ x
  | .ref τ,.ref σ x=>Jc σ τ x
  | .refv s,.refv v=>prj s v
  | .selfc f l,.selfc g vs=>match Nat.beq f g with | true=>Tz l vs | false=>none
  | .clo f l,.clo g vs=>match Nat.beq f g with | true=>Tz l vs | false=>none
  | .nilfn,.nilfn=>some ()
  | .agv l,.agv vs=>Tz l vs
  | .slv l,.slv vs=>Tz l vs
  | .fmap ks l,.fmap ks' vs=>match AA6 ks ks' with | true=>Tz l vs | false=>none
  | _,_=>none
def Tz:(l:List Sh)→List SV→Option (Xc l)
  | [],[]=>some ()
  | s :: r,v :: vs=>match prj s v with
    | some x=>match Tz r vs with
      | some y=>some (x,y)
      | none=>none
    | none=>none
  | _,_=>none
end
inductive LT where
  | d (τ:Ty)
  | v (agg:Bool) (n:Nat)
inductive FT where
  | d (τ:Ty)
  | v (sizes:List Nat)
inductive IT where
  | sl (e:Ty)
  | arr (n:Nat) (e:Ty)
  | slv (n:Nat)
inductive GOp where
  | move (x:Opd)
  | mknil (k:Nat) (e:Ty)
  | pick (c a b:Opd)
  | newbox (k:Nat) (τ:Ty) (nils:List (Z8×Nat))
  | newboxv (k:Nat) (z:SV)
  | box (k:Nat) (x:Opd)
  | load (t:LT) (a:Opd)
  | store (t:LT) (a v:Opd)
  | bin (op:BinOp) (x y:Opd)
  | eqs (τ:Ty) (neg:Bool) (x y:Opd)
  | not (x:Opd)
  | neg (x:Opd)
  | conv (k:IntKind) (x:Opd)
  | fieldAddr (t:FT) (j:Nat) (a:Opd)
  | field (τ:Ty) (j:Nat) (a:Opd)
  | index (t:IT) (x i:Opd)
  | len (x:Opd)
  | lens (x:Opd)
  | slicearr (n:Nat) (e:Ty) (x:Opd)
  | max (xs:List Opd)
  | min (xs:List Opd)
  | build (τ:Ty) (parts:List (Nat×Opd)) (nils:List (Z8×Nat))
  | buildv (sizes:List Nat) (parts:List Opd)
  | slice (k:Nat) (e:Ty) (parts:List Opd)
  | slicev (size:Nat) (parts:List Opd)
  | make (k:Nat) (e:Ty) (n:Opd)
  | append (k:Nat) (e:Ty) (x y:Opd)
  | extract (x:Opd) (i:Nat)
  | func (f:FuncId) (caps:List Opd)
  | mkmap (k:Nat) (κ ν:Ty)
  | lookup (κ ν:Ty) (m i:Opd)
  | lookv (m i:Opd) (ok:Bool)
  | slx (e:Ty) (x:Opd) (lo hi:Option Opd)
  | mapset (κ ν:Ty) (m i v:Opd)
  | mapent (κ ν:Ty) (m i:Opd)
  | mapst (κ ν:Ty) (m e v:Opd)
  | call (f:Opd) (args:List Opd) (res:List Sh) (keep:List ((Nat×Z8)×Nat)) (opt:Bool)
  | fail
abbrev Eff:=List (Nat×Obj)
def P2 (h:Yj):Eff→Yj
  | []=>h
  | (g,o) :: r=>P2 (R7 h g o) r
def ADv {α:Type} (f:α→α→Bool):List α→List α→Bool
  | x :: r,y :: r'=>f x y && ADv f r r'
  | _,_=>true
mutual
def eqT:(t:Ty)→den t→den t→Bool
  | .bool,x,y=>x == y
  | .int _,x,y=>x == y
  | .str,x,y=>x == y
  | .sl _,_,_=>false
  | .arr _ e,x,y=>ADv (eqT e) x y
  | .st fs,x,y=>ACo fs x y
def ACo:(l:List Ty)→K7 l→K7 l→Bool
  | [],_,_=>true
  | t :: r,x,y=>eqT t x.1 y.1 && ACo r x.2 y.2
end
mutual
def BG8:Ty→Bool
  | .sl _=>false
  | .arr _ e=>BG8 e
  | .st fs=>ASa fs
  | _=>true
def ASa:List Ty→Bool
  | []=>true
  | t :: r=>BG8 t && ASa r
end
section
variable {R:Type}
def Cl (op:BinOp) (k:IntKind) (x y:Int) (K:SV→Option R):Option R :=
  match op with
  | .add=>K (.dat (.int k) (k.wrap (x+y)) [])
  | .sub=>K (.dat (.int k) (k.wrap (x - y)) [])
  | .mul=>K (.dat (.int k) (k.wrap (x * y)) [])
  | .rem=>if y=0 then none else K (.dat (.int k) (Int.tmod x y) [])
  | .quo=>if y=0 then none else K (.dat (.int k) (k.wrap (Int.tdiv x y)) [])
  | .eql=>K (.dat .bool (decide (x=y)) [])
  | .neq=>K (.dat .bool (!decide (x=y)) [])
  | .lss=>K (.dat .bool (decide (x<y)) [])
  | .leq=>K (.dat .bool (decide (x≤y)) [])
  | .gtr=>K (.dat .bool (decide (y<x)) [])
  | .geq=>K (.dat .bool (decide (y≤x)) [])
  | _=>none
def AI5 (op:BinOp) (a b:SV) (K:SV→Option R):Option R :=
  match a,b with
  | .dat (.int k) x _,.dat (.int k') y _=>if k=k' then Cl op k x y K else none
  | _,_=>none
def AMw (τ:Ty) (neg:Bool) (a b:SV) (K:SV→Option R):Option R :=
  match a,b with
  | .dat σ x [],.dat ρ y []=>match Jc σ τ x,Jc ρ τ y,BG8 τ with
    | some x,some y,true=>K (.dat .bool (match neg with | true => !(eqT τ x y) | false=>eqT τ x y) [])
    | _,_,_=>none
  | _,_=>none
def Et (τ:Ty) (x:den τ) (ov:List (Z8×Option Nat)) (p:Z8) (K:SV→Option R):Option R :=
  match getP p τ x with
  | some d=>K (.dat d.τ d.x (Jv p ov))
  | none=>none
mutual
def Jb:SV→Nat
  | .dat τ _ _=>Zj τ
  | .agv vs=>Hc vs
  | _=>1
def Hc:List SV→Nat
  | []=>0
  | v :: r=>Jb v+Hc r
end
def Hy (n:Nat):SV→Bool
  | .junk=>false
  | .und=>false
  | .tup _=>false
  | v=>Nat.beq (Jb v) n
def T3:List Nat→List SV→Bool
  | [],[]=>true
  | n :: r,v :: s=>Hy n v && T3 r s
  | _,_=>false
def Am (n:Nat):List SV→Bool
  | []=>true
  | v :: s=>Hy n v && Am n s
def okL:LT→SV→Bool
  | .d τ,.dat σ _ _=>(match Kp σ τ with | some _=>true | none=>false)
  | .v true n,.agv vs=>Nat.beq (Hc vs) n
  | .v false n,.clo _ _=>Nat.beq n 1
  | .v false n,.nilfn=>Nat.beq n 1
  | .v false n,.fmap _ _=>Nat.beq n 1
  | _,_=>false
def ABa (ok:Bool) (v:SV) (b:Bool):SV:=match ok with | true=>.tup [v,.dat .bool b []] | false=>v
def Wv (n:Int):List Int→List SV→(SV→Bool→Option R)→Option R
  | k :: ks,v :: vs,K=>bif decide (n=k) then K v true else Wv n ks vs K
  | _,_,K=>K .nilfn false
def O9 (s:Nat→SV):Option Opd→Int→Option Int
  | none,d=>some d
  | some x,_=>match evO s x with | .dat (.int .i64) n _=>some n | _=>none
def I9 (h:Nat→Obj) (a:SV) (K:SV→Option R):Option R :=
  match a with
  | .ref τ x=>K (.dat τ x [])
  | .refv v=>K v
  | .selfc f vs=>K (.clo f (.selfc f vs :: vs))
  | .glo k=>match AEt k with | some d=>K (.dat d.τ d.x []) | none=>(match AGu k with | some p=>K (.fmap p.1 (p.2.map fun f=>.clo f [])) | none=>none)
  | .ptr g p=>match h g with
    | .box τ x ov=>Et τ x ov p K
    | .fbox τ x ov=>Et τ x ov p K
    | .boxv v=>(match getV v p with | some u=>K u | none=>none)
    | .fboxv v=>(match getV v p with | some u=>K u | none=>none)
    | _=>none
  | .elp g i p=>match h g with
    | .arr e l=>Et e (List.getD l i (dft e)) [] p K
    | .frz e l=>Et e (List.getD l i (dft e)) [] p K
    | _=>none
  | _=>none
def Fa (t:LT) (h:Nat→Obj) (a:SV) (K:SV→Option R):Option R :=
  I9 h a fun v=>match okL t v with | true=>K v | false=>none
mutual
def Fh:SV→SV→Bool
  | .agv vs,.agv us=>Fi vs us
  | .dat τ _ [],.dat σ _ []=>(match Kp τ σ with | some _=>true | none=>false)
  | .nilfn,.nilfn=>true
  | .nilfn,.clo _ _=>true
  | .clo _ _,.nilfn=>true
  | .clo _ _,.clo _ _=>true
  | _,_=>false
def Fi:List SV→List SV→Bool
  | [],[]=>true
  | v :: r,u :: s=>Fh v u && Fi r s
  | _,_=>false
end
mutual
def Ay:SV→Bool
  | .nilfn=>true
  | .agv vs=>ADl vs
  | .dat (.int _) x []=>decide (x=(0:Int))
  | .dat .bool x [] => !x
  | _=>false
def ADl:List SV→Bool
  | []=>true
  | v :: r=>Ay v && ADl r
end
def R9 (h:Nat→Obj) (a v:SV) (K:Eff→Option R):Option R :=
  match a with
  | .ptr g p=>match h g with
    | .box τ x ov=>(match v with
      | .dat σ y ov'=>match setP τ p x ⟨σ,y⟩ with
        | some x'=>K [(g,.box τ x' (Mx (Dk p ov') (Oq p ov)))]
        | none=>none
      | _=>none)
    | .boxv u=>(match p,Fh u v with | [],true=>K [(g,.boxv v)] | _,_=>none)
    | _=>none
  | .elp g i p=>match h g with
    | .arr e l=>(match v with
      | .dat σ y []=>match setP e p (List.getD l i (dft e)) ⟨σ,y⟩ with
        | some y'=>K [(g,.arr e (List.set l i y'))]
        | none=>none
      | _=>none)
    | _=>none
  | _=>none
def inB (n:Int) (m:Nat) (K:Nat→Option R):Option R:=if 0≤n∧n<(m:Int) then K n.toNat else none
def Yb (h:Nat→Obj) (t:FT) (j:Nat) (a:SV) (K:SV→Option R):Option R :=
  match t with
  | .d σ=>(match σ with
    | .st fs=>bif Nat.blt j fs.length then (match a with
      | .ptr g p=>(match h g with
        | .box τ x _=>fld τ x p σ (K (.ptr g (p ++ [j])))
        | .fbox τ x _=>fld τ x p σ (K (.ptr g (p ++ [j])))
        | _=>none)
      | .elp g i p=>(match h g with
        | .arr e _=>fld e (dft e) p σ (K (.elp g i (p ++ [j])))
        | .frz e _=>fld e (dft e) p σ (K (.elp g i (p ++ [j])))
        | _=>none)
      | .ref τ x=>(match Kp τ σ,getP [j] τ x with | some _,some d=>K (.ref d.τ d.x) | _,_=>none)
      | _=>none) else none
    | _=>none)
  | .v sizes=>(match a with
    | .refv (.agv vs)=>(match natsEq (sizesV vs) sizes,vs[j]? with | true,some v=>K (.refv v) | _,_=>none)
    | .ptr g p=>(match h g with
      | .boxv u=>fldV u p sizes j (K (.ptr g (p ++ [j])))
      | .fboxv u=>fldV u p sizes j (K (.ptr g (p ++ [j])))
      | _=>none)
    | _=>none)
where
  fld (τ:Ty) (x:den τ) (p:Z8) (σ:Ty) (r:Option R):Option R:=match getP p τ x with
    | some d=>(match Kp d.τ σ with | some _=>r | none=>none)
    | none=>none
  sizesV:List SV→List Nat
    | []=>[]
    | v :: r=>Jb v :: sizesV r
  natsEq:List Nat→List Nat→Bool
    | [],[]=>true
    | a :: r,b :: s=>Nat.beq a b && natsEq r s
    | _,_=>false
  fldV (u:SV) (p:Z8) (sizes:List Nat) (j:Nat) (r:Option R):Option R:=match getV u p with
    | some (.agv vs)=>bif natsEq (sizesV vs) sizes && Nat.blt j sizes.length then r else none
    | _=>none
def Uh (t:IT) (h:Nat→Obj) (x i:SV) (K:SV→Option R):Option R :=
  match i with
  | .dat (.int _) n _=>(match t with
    | .sl σ=>(match x with
      | .dat (.sl e) l []=>(match Kp e σ with | some _=>inB n (List.length l) fun j=>K (.ref e (List.getD l j (dft e))) | none=>none)
      | .dat (.sl _) _ [([],some g)]=>(match h g with
        | .arr e l=>(match Kp e σ with | some _=>inB n l.length fun j=>K (.elp g j []) | none=>none)
        | .frz e l=>(match Kp e σ with | some _=>inB n l.length fun j=>K (.elp g j []) | none=>none)
        | _=>none)
      | _=>none)
    | .arr M σ=>(match x with
      | .ref (.arr N e) l=>(match Kp e σ,Nat.beq N M with | some _,true=>inB n N fun j=>K (.ref e (List.getD l j (dft e))) | _,_=>none)
      | .ptr g p=>(match h g with
        | .box τ x _=>arrAt τ x p M σ n fun j=>K (.ptr g (p ++ [j]))
        | .fbox τ x _=>arrAt τ x p M σ n fun j=>K (.ptr g (p ++ [j]))
        | _=>none)
      | _=>none)
    | .slv sz=>(match x with
      | .slv vs=>(match n with
        | .ofNat j=>(match vs[j]? with | some v=>(match Nat.beq (Jb v) sz with | true=>K (.refv v) | false=>none) | none=>none)
        | _=>none)
      | _=>none))
  | _=>none
where
  arrAt (τ:Ty) (x:den τ) (p:Z8) (M:Nat) (σ:Ty) (n:Int) (K:Nat→Option R):Option R:=match getP p τ x with
    | some ⟨.arr N e,_⟩=>(match Kp e σ,Nat.beq N M with | some _,true=>inB n N K | _,_=>none)
    | _=>none
def ACz (h:Nat→Obj) (x:SV) (K:SV→Option R):Option R :=
  match x with
  | .dat (.sl _) l []=>K (.dat (.int .i64) ((List.length l:Nat):Int) [])
  | .dat (.sl _) _ [([],some g)]=>(match h g with
    | .arr _ l=>K (.dat (.int .i64) ((List.length l:Nat):Int) [])
    | .frz _ l=>K (.dat (.int .i64) ((List.length l:Nat):Int) [])
    | _=>none)
  | .slv vs=>K (.dat (.int .i64) ((List.length vs:Nat):Int) [])
  | _=>none
def Tm (τ:Ty) (s:Nat→SV):(x:den τ)→(ov:List (Z8×Option Nat))→List (Nat×Opd)→(SV→Option R)→Option R
  | x,ov,[],K=>K (.dat τ x ov)
  | x,ov,(j,o) :: r,K=>match evO s o with
    | .dat σ y ov'=>match setP τ [j] x ⟨σ,y⟩ with
      | some x'=>Tm τ s x' (Oq [j] ov ++ Dk [j] ov') r K
      | none=>none
    | _=>none
def Rk (τ:Ty) (x:den τ) (h:Nat→Obj):List (Z8×Nat)→Option (List (Z8×Option Nat)×Eff)
  | []=>some ([],[])
  | (p,k) :: r=>match h k,getP p τ x,r.any (fun q=>Nat.beq q.2 k || Z5 q.1 p),Rk τ x h r with
    | .none,some ⟨.sl e,_⟩,false,some (ov,es)=>some ((p,some k) :: ov,(k,.arr e []) :: es)
    | _,_,_,_=>none
def Wq (e:Ty) (s:Nat→SV):List Opd→Option (List (den e))
  | []=>some []
  | o :: r=>match evO s o with
    | .dat σ y []=>match Jc σ e y with
      | some z=>match Wq e s r with
        | some zs=>some (z :: zs)
        | none=>none
      | none=>none
    | _=>none
end
mutual
def noSl:Ty→Bool
  | .sl _=>false
  | .arr _ e=>noSl e
  | .st fs=>AIi fs
  | _=>true
def AIi:List Ty→Bool
  | []=>true
  | t :: r=>noSl t && AIi r
end
def L7:List Sh→Bool
  | []=>true
  | .d τ :: r=>noSl τ && L7 r
  | _ :: _=>false
def Ps:List (Z8×Option Nat)→List Nat
  | []=>[]
  | (_,some g) :: r=>g :: Ps r
  | (_,none) :: r=>Ps r
def Ak (g:Nat):Z8→SV→Option (FuncId×List SV)
  | [],.clo f (.ptr g' [] :: caps)=>match Nat.beq g g' with | true=>some (f,caps) | false=>none
  | _,_=>none
mutual
def Y0 (h:Nat→Obj):Nat→SV→Option (SV×List Nat)
  | 0,_=>none
  | n+1,v=>match v with
    | .dat τ x ov=>match resolve h τ x ov with
      | some y=>some (.dat τ y [],Ps ov)
      | none=>none
    | .ptr g p=>match h g with
      | .box τ x ov=>match resolve h τ x ov with
        | some y=>match getP p τ y with
          | some d=>some (.ref d.τ d.x,g :: Ps ov)
          | none=>none
        | none=>none
      | .fbox τ x ov=>match resolve h τ x ov with
        | some y=>match getP p τ y with
          | some d=>some (.ref d.τ d.x,g :: Ps ov)
          | none=>none
        | none=>none
      | .boxv v=>match Ak g p v with
        | some (f,caps)=>match We h n caps with
          | some (us,ids)=>some (.selfc f us,g :: ids)
          | none=>none
        | none=>match getV v p with
          | some v=>match Y0 h n v with
            | some (u,ids)=>some (.refv u,g :: ids)
            | none=>none
          | none=>none
      | .fboxv v=>match Ak g p v with
        | some (f,caps)=>match We h n caps with
          | some (us,ids)=>some (.selfc f us,g :: ids)
          | none=>none
        | none=>match getV v p with
          | some v=>match Y0 h n v with
            | some (u,ids)=>some (.refv u,g :: ids)
            | none=>none
          | none=>none
      | _=>none
    | .ref τ x=>some (.ref τ x,[])
    | .refv v=>match Y0 h n v with | some (u,ids)=>some (.refv u,ids) | none=>none
    | .selfc f caps=>match We h n caps with | some (us,ids)=>some (.selfc f us,ids) | none=>none
    | .clo f caps=>match We h n caps with | some (us,ids)=>some (.clo f us,ids) | none=>none
    | .agv vs=>match We h n vs with | some (us,ids)=>some (.agv us,ids) | none=>none
    | .slv vs=>match We h n vs with | some (us,ids)=>some (.slv us,ids) | none=>none
    | .nilfn=>some (.nilfn,[])
    | _=>none
def We (h:Nat→Obj):Nat→List SV→Option (List SV×List Nat)
  | 0,_=>none
  | _+1,[]=>some ([],[])
  | n+1,v :: vs=>match Y0 h n v with
    | some (u,ids)=>match We h n vs with
      | some (us,ids')=>some (u :: us,ids ++ ids')
      | none=>none
    | none=>none
end
def Qe (h:Nat→Obj):List Nat→Option Eff
  | []=>some []
  | g :: r=>match h g with
    | .arr e l=>match Qe h r with | some es=>some ((g,.frz e l) :: es) | none=>none
    | .frz _ _=>Qe h r
    | .box τ x ov=>match Qe h r with | some es=>some ((g,.fbox τ x ov) :: es) | none=>none
    | .boxv v=>match Qe h r with | some es=>some ((g,.fboxv v) :: es) | none=>none
    | .fbox .. => Qe h r
    | .fboxv _=>Qe h r
    | _=>none
abbrev Zz:=List (Nat×Z8)
def Zp (fr:Zz) (k:Nat×Z8):Bool:=fr.any fun f=>Nat.beq f.1 k.1 && Z5 f.2 k.2
def Zq (fr:Zz):List ((Nat×Z8)×Nat)→Bool
  | []=>true
  | (k,_) :: r=>Zp fr k && !(r.any fun q=>Nat.beq q.1.1 k.1 && Z5 q.1.2 k.2) && Zq fr r
def Tt:List SV→List ((Nat×Z8)×Nat)→Option (List SV×Eff)
  | vs,[]=>some (vs,[])
  | vs,((i,p),k) :: r=>match vs[i]? with
    | some (.dat τ x ov)=>match getP p τ x with
      | some ⟨.sl e,l⟩=>match setP τ p x ⟨.sl e,[]⟩ with
        | some x'=>match Tt (vs.set i (.dat τ x' (ov ++ [(p,some k)]))) r with
          | some (us,es)=>some (us,(k,.arr e l) :: es)
          | none=>none
        | none=>none
      | _=>none
    | _=>none
section
variable {R:Type}
def Ni:List SV→SV
  | [v]=>v
  | vs=>.tup vs
def Yo (κ ν:Ty) (i:den κ):List (den κ×den ν)→Option (den ν)
  | []=>none
  | (k,v) :: r=>if eqT κ i k then some v else Yo κ ν i r
def Gu (κ ν:Ty) (i:den κ) (x:den ν):List (den κ×den ν)→List (den κ×den ν)
  | []=>[(i,x)]
  | (k,v) :: r=>if eqT κ i k then (i,x) :: r else (k,v) :: Gu κ ν i x r
def Di (κ ν:Ty) (i:den κ):List (den κ×den ν)→Nat
  | []=>0
  | (k,_) :: r=>if eqT κ i k then 0 else Di κ ν i r+1
def Ry (κ ν:Ty) (i:den κ) (l:List (den κ×den ν)):List (den κ×den ν):=match Yo κ ν i l with
  | some _=>l
  | none=>l ++ [(i,dft ν)]
def N1 (κ ν:Ty):Nat→den ν→List (den κ×den ν)→List (den κ×den ν)
  | _,_,[]=>[]
  | 0,x,(k,_) :: r=>(k,x) :: r
  | n+1,x,e :: r=>e :: N1 κ ν n x r
def Wt (s:Nat→SV):List Opd→Option (IntKind×List Int)
  | []=>none
  | [o]=>match evO s o with | .dat (.int k) n _=>some (k,[n]) | _=>none
  | o :: r=>match evO s o with
    | .dat (.int k) n _=>match Wt s r with
      | some (k',l)=>if k=k' then some (k,n :: l) else none
      | none=>none
    | _=>none
abbrev Calls:=FuncId→List SV→(res:List Sh)→Option (Xc res×Zz)
def Hh (h:Nat→Obj):List ((Nat×Z8)×Nat)→Bool
  | []=>true
  | (_,k) :: r=>(match h k with | .none=>true | _=>false) && Hh h r && !(r.any fun q=>Nat.beq q.2 k)
def M9 (h:Nat→Obj) (ids:List Nat) (res:List Sh) (x:Xc res) (keep:List ((Nat×Z8)×Nat)) (K:SV→Eff→Option R):Option R :=
  match (match L7 res,keep with | true,[]=>some [] | _,_=>Qe h ids) with
  | some es=>(match Tt (V5 res x) keep with
    | some (vs,es')=>K (Ni vs) (es ++ es')
    | none=>none)
  | none=>none
def Pg (cf:Calls) (h:Nat→Obj) (f:SV) (args:List SV) (res:List Sh) (keep:List ((Nat×Z8)×Nat)) (opt:Bool) (K:SV→Eff→Option R):Option R :=
  match f with
  | .clo fid caps=>match We h 60 (args ++ caps) with
    | some (as,ids)=>(cf fid as res).bind fun r =>
        bif Zq r.2 keep then (bif Hh h keep then M9 h ids res r.1 keep K else none)
        else (match opt with | true=>M9 h ids res r.1 [] K | false=>none)
    | none=>none
  | .refv _=>none
  | _=>none
def gop (cf:Calls) (s:Nat→SV) (h:Nat→Obj) (o:GOp) (K:SV→Eff→Option R):Option R :=
  match o with
  | .move x=>K (evO s x) []
  | .mknil k e=>match h k with
    | .none=>K (.dat (.sl e) [] [([],some k)]) [(k,.arr e [])]
    | _=>none
  | .pick c a b=>match evO s c with
    | .dat .bool t _=>(match evO s a,evO s b with
      | .dat .bool x _,.dat .bool y _=>K (.dat .bool (bif t then x else y) []) []
      | .dat .bool x _,.und=>bif t then K (.dat .bool x []) [] else none
      | .und,.dat .bool y _=>bif t then none else K (.dat .bool y []) []
      | _,_=>none)
    | _=>none
  | .newbox k τ nils=>match h k,Rk τ (dft τ) h nils,nils.any (fun q=>Nat.beq q.2 k) with
    | .none,some (ov,es),false=>K (.ptr k []) ((k,.box τ (dft τ) ov) :: es)
    | _,_,_=>none
  | .newboxv k z=>match h k,Ay z with
    | .none,true=>K (.ptr k []) [(k,.boxv z)]
    | _,_=>none
  | .box k x=>match h k with
    | .none=>(match evO s x with
      | .dat τ x ov=>K (.ptr k []) [(k,.box τ x ov)]
      | .clo f caps=>K (.ptr k []) [(k,.boxv (.clo f caps))]
      | _=>none)
    | _=>none
  | .load t a=>Fa t h (evO s a) fun v=>K v []
  | .store t a v=>(match okL t (evO s v) with | true=>R9 h (evO s a) (evO s v) fun e=>K .junk e | false=>none)
  | .bin op x y=>AI5 op (evO s x) (evO s y) fun v=>K v []
  | .eqs τ neg x y=>AMw τ neg (evO s x) (evO s y) fun v=>K v []
  | .not x=>match evO s x with | .dat .bool b _=>K (.dat .bool (!b) []) [] | _=>none
  | .neg x=>match evO s x with | .dat (.int k) n _=>K (.dat (.int k) (k.wrap (0 - n)) []) [] | _=>none
  | .conv k x=>match evO s x with | .dat (.int _) n _=>K (.dat (.int k) (k.wrap n) []) [] | _=>none
  | .fieldAddr t j a=>Yb h t j (evO s a) fun v=>K v []
  | .field τ j a=>match evO s a with
    | .dat σ x ov=>(match Kp σ τ with | some _=>Et σ x ov [j] fun v=>K v [] | none=>none)
    | _=>none
  | .index t x i=>Uh t h (evO s x) (evO s i) fun v=>K v []
  | .len x=>ACz h (evO s x) fun v=>K v []
  | .lens x=>match evO s x with
    | .dat .str y _=>K (.dat (.int .i64) ((ByteArray.size y:Nat):Int) []) []
    | _=>none
  | .max xs=>match Wt s xs with | some (k,n :: l)=>K (.dat (.int k) (l.foldl (fun a b=>if a<b then b else a) n) []) [] | _=>none
  | .min xs=>match Wt s xs with | some (k,n :: l)=>K (.dat (.int k) (l.foldl (fun a b=>if b<a then b else a) n) []) [] | _=>none
  | .build τ parts nils=>match Rk τ (dft τ) h nils with
    | some (ov,es)=>Tm τ s (dft τ) ov parts fun v=>K v es
    | none=>none
  | .buildv sizes parts=>match T3 sizes (parts.map (evO s)) with | true=>K (.agv (parts.map (evO s))) [] | false=>none
  | .slice k e parts=>match h k,Wq e s parts with
    | .none,some l=>K (.dat (.sl e) [] [([],some k)]) [(k,.arr e l)]
    | _,_=>none
  | .slicev n parts=>match Am n (parts.map (evO s)) with | true=>K (.slv (parts.map (evO s))) [] | false=>none
  | .make k e n=>match h k,evO s n with
    | .none,.dat (.int _) n _=>if 0≤n∧n≤1048576 then K (.dat (.sl e) [] [([],some k)]) [(k,.arr e (List.replicate n.toNat (dft e)))] else none
    | _,_=>none
  | .append k e x y=>match evO s x,evO s y,h k with
    | .dat (.sl e0) _ [([],some g)],.dat σ l' ov',.none=>(match h g with
      | .arr e1 l=>(match Kp e0 e,Kp e1 e,resolve h σ l' ov' with
        | some _,some _,some l'=>(match Jc σ (.sl e1) l' with
          | some l'=>if List.length l+List.length l'≤1048576 then K (.dat (.sl e) [] [([],some k)]) [(g,.dead),(k,.arr e1 (l ++ l'))] else none
          | none=>none)
        | _,_,_=>none)
      | _=>none)
    | _,_,_=>none
  | .extract x i=>match evO s x with | .tup vs=>(match vs[i]? with | some v=>K v [] | none=>none) | _=>none
  | .func f caps=>K (.clo f (caps.map (evO s))) []
  | .mkmap k κ ν=>match h k with
    | .none=>K (.ptr k []) [(k,.map κ ν [])]
    | _=>none
  | .lookup κ0 ν0 m i=>match evO s m,evO s i with
    | .ptr g [],.dat σ y []=>(match h g with
      | .map κ ν l=>(match Jc σ κ y,Kp κ κ0,Kp ν ν0 with
        | some i,some _,some _=>K (.dat ν ((Yo κ ν i l).getD (dft ν)) []) []
        | _,_,_=>none)
      | _=>none)
    | _,_=>none
  | .mapset κ0 ν0 m i v=>match evO s m,evO s i,evO s v with
    | .ptr g [],.dat σ y [],.dat ρ z []=>(match h g with
      | .map κ ν l=>(match Jc σ κ y,Jc ρ ν z,Kp κ κ0,Kp ν ν0 with
        | some i,some x,some _,some _=>K .junk [(g,.map κ ν (Gu κ ν i x l))]
        | _,_,_,_=>none)
      | _=>none)
    | _,_,_=>none
  | .mapent κ0 ν0 m i=>match evO s m,evO s i with
    | .ptr g [],.dat σ y []=>(match h g with
      | .map κ ν l=>(match Jc σ κ y,Kp κ κ0,Kp ν ν0 with
        | some i,some _,some _=>K (.tup [.dat ν ((Yo κ ν i l).getD (dft ν)) [],.dat (.int .i64) ((Di κ ν i l:Nat):Int) []]) [(g,.map κ ν (Ry κ ν i l))]
        | _,_,_=>none)
      | _=>none)
    | _,_=>none
  | .mapst κ0 ν0 m e v=>match evO s m,evO s e,evO s v with
    | .ptr g [],.dat (.int .i64) n _,.dat ρ z []=>(match h g with
      | .map κ ν l=>(match Jc ρ ν z,Kp κ κ0,Kp ν ν0 with
        | some x,some _,some _=>if (0:Int)≤n∧n<((List.length l:Nat):Int) then K .junk [(g,.map κ ν (N1 κ ν (Int.toNat n) x l))] else none
        | _,_,_=>none)
      | _=>none)
    | _,_,_=>none
  | .lookv m i ok=>match evO s m,evO s i with
    | .fmap ks vs,.dat (.int .i64) n []=>Wv n ks vs fun v b=>K (ABa ok v b) []
    | _,_=>none
  | .slx e x lo hi=>match evO s x with
    | .dat (.sl _) _ [([],some g)]=>(match h g with
      | .frz e1 l=>(match Kp e1 e,O9 s lo 0,O9 s hi ((List.length l:Nat):Int) with
        | some _,some a,some b=>if 0≤a∧a≤b∧b≤((List.length l:Nat):Int) then K (.dat (.sl e1) ((l.take b.toNat).drop a.toNat) []) [] else none
        | _,_,_=>none)
      | _=>none)
    | .dat (.sl e1) l []=>(match Kp e1 e,O9 s lo 0,O9 s hi ((List.length l:Nat):Int) with
      | some _,some a,some b=>if 0≤a∧a≤b∧b≤((List.length l:Nat):Int) then K (.dat (.sl e1) ((List.take b.toNat l).drop a.toNat) []) [] else none
      | _,_,_=>none)
    | _=>none
  | .call f args res keep opt=>Pg cf h (evO s f) (args.map (evO s)) res keep opt K
  | .fail=>none
  | .slicearr M σ x=>match evO s x with
    | .glo k=>AGw (AEt k) M σ fun l=>K (.dat (.sl σ) l []) []
    | .ptr g []=>(match h g with
      | .box (.arr N e) l []=>(match Kp e σ,Nat.beq N M with | some _,true=>K (.dat (.sl e) l []) [(g,.dead)] | _,_=>none)
      | _=>none)
    | _=>none
structure Ln where
  d:Option Nat
  op:GOp
  g:Option (Nat×Bool):=none
  rd:List Nat:=[]
  wr:List Nat:=[]
inductive Cd where
  | skip
  | reg (draw:Bool) (l:List Ln)
  | tidy (kill:List Nat) (mv:List (Nat×Nat)) (drop:List Nat) (trunc:Option Nat)
  | frz (ids:List Nat)
  | seq (a b:Cd)
  | cond (c:Opd) (a b:Cd)
  | block (id:Nat) (a:Cd)
  | loop (a:Cd)
  | exit (id:Nat)
  | ret
inductive Ex where
  | norm | exit (id:Nat) | ret
def Bw (ids:List Nat) (h:Nat→Obj):Nat→Obj:=fun g=>match ids.any (Nat.beq g) with | true=>h g | false=>.hid
def AAq (wr:List Nat):Eff→Bool
  | []=>true
  | (g,_) :: r=>wr.any (Nat.beq g) && AAq wr r
def B4 (cf:Calls) (draw:Bool) (l:Ln) (s:Xk) (h:Yj) (K:Xk→Yj→Option R):Option R :=
  match draw with
  | false=>gop cf (Xu s) (Xn h) l.op fun v e=>K (El s l.d v) (P2 h e)
  | true=>gop cf (Xu s) (Bw (l.rd ++ l.wr) (Xn h)) l.op fun v e=>match AAq l.wr e with
    | true=>K (El s l.d v) (P2 h e)
    | false=>none
def Yz (cf:Calls) (draw:Bool):List Ln→Xk→Yj→(Xk→Yj→Option R)→Option R
  | [],s,h,K=>K s h
  | l :: r,s,h,K=>match l.g with
    | none=>B4 cf draw l s h fun s h=>Yz cf draw r s h K
    | some (j,true)=>(match Xu s j with
      | .dat .bool b []=>bif b then B4 cf draw l (M5 s j (.dat .bool true [])) h fun s h=>Yz cf draw r s h K
          else Yz cf draw r (El (M5 s j (.dat .bool false [])) l.d .und) h K
      | .und=>Yz cf draw r (El s l.d .und) h K
      | _=>none)
    | some (j,false)=>(match Xu s j with
      | .dat .bool b []=>bif b then Yz cf draw r (El (M5 s j (.dat .bool true [])) l.d .und) h K
          else B4 cf draw l (M5 s j (.dat .bool false [])) h fun s h=>Yz cf draw r s h K
      | .und=>Yz cf draw r (El s l.d .und) h K
      | _=>none)
def G3 (p:Nat→Bool):List (Z8×Option Nat)→Bool
  | []=>true
  | (_,some g) :: r=>p g && G3 p r
  | (_,none) :: r=>G3 p r
mutual
def Up (p:Nat→Bool):SV→Bool
  | .dat _ _ ov=>G3 p ov
  | .ptr g _=>p g
  | .ref _ _=>true
  | .refv v=>Up p v
  | .selfc _ caps=>Nc p caps
  | .glo _=>true
  | .elp g _ _=>p g
  | .clo _ caps=>Nc p caps
  | .tup vs=>Nc p vs
  | .slv vs=>Nc p vs
  | .fmap _ vs=>Nc p vs
  | .agv vs=>Nc p vs
  | .nilfn=>true
  | .und=>true
  | .junk=>true
def Nc (p:Nat→Bool):List SV→Bool
  | []=>true
  | v :: r=>Up p v && Nc p r
end
def ADw (p:Nat→Bool):Obj→Bool
  | .box _ _ ov=>G3 p ov
  | .boxv v=>Up p v
  | .fbox _ _ ov=>G3 p ov
  | .fboxv v=>Up p v
  | _=>true
def M8 (p:Nat→Bool):Xk→Bool
  | []=>true
  | (_,v) :: r=>Up p v && M8 p r
def M7 (p:Nat→Bool):Yj→Bool
  | []=>true
  | o :: r=>ADw p o && M7 p r
def neI (n g:Nat):Bool:=match Nat.beq g n with | true=>false | false=>true
def ltI (n g:Nat):Bool:=Nat.blt g n
def AAe (a b g:Nat):Nat:=match Nat.beq g a with | true=>b | false=>g
def Kj (f:Nat→Nat):List (Z8×Option Nat)→List (Z8×Option Nat)
  | []=>[]
  | (q,some g) :: r=>(q,some (f g)) :: Kj f r
  | (q,none) :: r=>(q,none) :: Kj f r
mutual
def J6 (f:Nat→Nat):SV→SV
  | .dat τ x ov=>.dat τ x (Kj f ov)
  | .ptr g p=>.ptr (f g) p
  | .ref τ x=>.ref τ x
  | .refv v=>.refv (J6 f v)
  | .selfc c caps=>.selfc c (V2 f caps)
  | .glo k=>.glo k
  | .elp g i p=>.elp (f g) i p
  | .clo c caps=>.clo c (V2 f caps)
  | .tup vs=>.tup (V2 f vs)
  | .slv vs=>.slv (V2 f vs)
  | .fmap ks vs=>.fmap ks (V2 f vs)
  | .agv vs=>.agv (V2 f vs)
  | .nilfn=>.nilfn
  | .und=>.und
  | .junk=>.junk
def V2 (f:Nat→Nat):List SV→List SV
  | []=>[]
  | v :: r=>J6 f v :: V2 f r
end
def Ui (f:Nat→Nat):Obj→Obj
  | .box τ x ov=>.box τ x (Kj f ov)
  | .boxv v=>.boxv (J6 f v)
  | .fbox τ x ov=>.fbox τ x (Kj f ov)
  | .fboxv v=>.fboxv (J6 f v)
  | o=>o
def AFl (f:Nat→Nat):Xk→Xk
  | []=>[]
  | (i,v) :: r=>(i,J6 f v) :: AFl f r
def ANv (s:Xk) (h:Yj) (a b:Nat) (K:Xk→Yj→Option R):Option R :=
  match Xn h a with
  | .none=>K s h
  | _=>match M8 (neI b) s && M7 (neI b) h && !(Nat.beq a b) with
  | true=>K (AFl (AAe a b) s) (R7 (R7 (h.map (Ui (AAe a b))) b (Xn (h.map (Ui (AAe a b))) a)) a .none)
  | false=>none
def L2:List (Nat×Nat)→Xk→Yj→(Xk→Yj→Option R)→Option R
  | [],s,h,K=>K s h
  | (a,b) :: r,s,h,K=>ANv s h a b fun s h=>L2 r s h K
def Nq:List Nat→Xk→Yj→(Xk→Yj→Option R)→Option R
  | [],s,h,K=>K s h
  | g :: r,s,h,K=>match Xn h g with
    | .none=>Nq r s h K
    | _=>match M8 (neI g) s && M7 (neI g) h with
      | true=>Nq r s (R7 h g .none) K
      | false=>none
def Ew (n:Option Nat) (s:Xk) (h:Yj) (K:Xk→Yj→Option R):Option R :=
  match n with
  | none=>K s h
  | some n=>match M8 (ltI n) s && M7 (ltI n) (h.take n) with
    | true=>K s (h.take n)
    | false=>none
abbrev Kt (R:Type):=Ex→Xk→Yj→Option R
def Lf (body:Kt R→Kt R→Xk→Yj→Option R):Nat→Kt R→Xk→Yj→Option R
  | 0,_,_,_=>none
  | m+1,K,s,h=>body (fun _ s h=>Lf body m K s h) K s h
def Qh (run:Cd→Kt R→Kt R→Xk→Yj→Option R) (b:Cd) (Kn K:Kt R):Kt R:=fun _ s h=>run b Kn K s h
def Ja (id:Nat) (Kn K:Kt R):Kt R:=fun ex s h=>match ex with
  | .exit i=>(match Nat.beq i id with | true=>Kn .norm s h | false=>K (.exit i) s h)
  | ex=>K ex s h
def run (cf:Calls) (lp:Nat):Cd→Kt R→Kt R→Xk→Yj→Option R
  | .skip,Kn,_,s,h=>Kn .norm s h
  | .reg draw l,Kn,_,s,h=>Yz cf draw l s h fun s h=>Kn .norm s h
  | .tidy kill mv dr tr,Kn,_,s,h=>L2 mv (Le kill s) h fun s h=>Nq dr s h fun s h=>Ew tr s h fun s h=>Kn .norm s h
  | .frz ids,Kn,_,s,h=>match Qe (Xn h) ids with
    | some es=>Kn .norm s (P2 h es)
    | none=>none
  | .seq a b,Kn,K,s,h=>run cf lp a (fun _ s h=>run cf lp b Kn K s h) K s h
  | .cond c a b,Kn,K,s,h=>match evO (Xu s) c with
    | .dat .bool t _=>bif t then run cf lp a Kn K s h else run cf lp b Kn K s h
    | _=>none
  | .block id a,Kn,K,s,h=>run cf lp a Kn (Ja id Kn K) s h
  | .loop a,_,K,s,h=>Lf (fun Kn K s h=>run cf lp a Kn K s h) lp K s h
  | .exit id,_,K,s,h=>K (.exit id) s h
  | .ret,_,K,s,h=>K .ret s h
inductive RV where
  | tmp (t:Nat)
  | cell (t:Nat) (l:LT)
structure Fn where
  np:Nat
  res:List RV
  body:Cd
def Pd:Nat→List SV→Xk
  | _,[]=>[]
  | i,v :: r=>(i,v) :: Pd (i+1) r
def V8:Z8→Ty→Bool
  | [],.sl _=>true
  | i :: p,.st fs=>(match fs[i]? with | some t=>V8 p t | none=>false)
  | _,_=>false
def N6 (τ:Ty):List (Z8×Option Nat)→Bool
  | []=>true
  | (q,_) :: r=>V8 q τ && !(r.any fun e=>Z5 e.1 q) && N6 τ r
def Hp (s:Nat→SV) (h:Nat→Obj):RV→Option (SV×List (Z8×Nat)×List Nat)
  | .tmp t=>resFin h (s t)
  | .cell t l=>Fa l h (s t) fun v=>resFin h v
where
  resFin (h:Nat→Obj) (v:SV):Option (SV×List (Z8×Nat)×List Nat):=match v with
    | .dat τ x ov=>match resolve h τ x ov with
      | some y=>(match N6 τ ov with | true=>some (.dat τ y [],ovOwn h ov,[]) | false=>some (.dat τ y [],[],Ps ov))
      | none=>none
    | v=>match Y0 h 60 v with | some (u,ids)=>some (u,[],ids) | none=>none
  ovOwn (h:Nat→Obj):List (Z8×Option Nat)→List (Z8×Nat)
    | []=>[]
    | (q,some g) :: r=>(match h g with | .arr _ _=>(q,g) :: ovOwn h r | _=>ovOwn h r)
    | (_,none) :: r=>ovOwn h r
def resAll (s:Nat→SV) (h:Nat→Obj):Nat→List RV→Option (List SV×List ((Nat×Z8)×Nat)×List Nat)
  | _,[]=>some ([],[],[])
  | i,r :: rs=>match Hp s h r with
    | some (v,o,l)=>match resAll s h (i+1) rs with
      | some (vs,os,ls)=>some (v :: vs,o.map (fun q=>((i,q.1),q.2)) ++ os,l ++ ls)
      | none=>none
    | none=>none
def Pq:List ((Nat×Z8)×Nat)→Bool
  | []=>true
  | (_,g) :: r => !(r.any fun q=>Nat.beq q.2 g) && Pq r
def Tf:List ((Nat×Z8)×Nat)→Bool
  | []=>true
  | (k,_) :: r => !(r.any fun q=>Nat.beq q.1.1 k.1 && Z5 q.1.2 k.2) && Tf r
def Og (o:List ((Nat×Z8)×Nat)) (l:List Nat):Zz:=match Pq o && Tf o && o.all (fun q => !(l.any (Nat.beq q.2))) with
  | true=>o.map (·.1)
  | false=>[]
def Xa (fn:Fn) (res:List Sh):Kt (Xc res×Zz):=fun ex s h =>
  match ex with
  | .exit _=>none
  | _=>match resAll (Xu s) (Xn h) 0 fn.res with
  | some (vs,o,l)=>match Tz res vs with
    | some x=>some (x,Og o l)
    | none=>none
  | none=>none
def Vy (prog:FuncId→Option Fn) (sp:Calls):Nat→Calls
  | 0,_,_,_=>none
  | n+1,f,as,res=>match prog f with
    | some fn=>match Nat.beq as.length fn.np with
      | true=>run (Vy prog sp n) n fn.body (Xa fn res) (Xa fn res) (Pd 0 as) []
      | false=>none
    | none=>sp f as res
end
end Go.Proofs.YtjobjooccgledaaGreatDoor.Ghost
namespace Go.Proofs.YtjobjooccgledaaGreatDoor.Ghost
open Go
mutual
def Jd:Ty→Z8→Nat
  | .st fs,i :: p=>Gv fs i p
  | .arr _ e,i :: p=>i * Zj e+Jd e p
  | _,_=>0
def Gv:List Ty→Nat→Z8→Nat
  | [],_,_=>0
  | t :: _,0,p=>Jd t p
  | t :: r,n+1,p=>Zj t+Gv r n p
end
mutual
def okP:Ty→Z8→Prop
  | _,[]=>True
  | .st fs,i :: p=>okF fs i p
  | .arr n e,i :: p=>i<n∧okP e p
  | _,_=>False
def okF:List Ty→Nat→Z8→Prop
  | [],_,_=>False
  | t :: _,0,p=>okP t p
  | _ :: r,n+1,p=>okF r n p
end
structure K1 where
  b:Nat
  len:Nat
  cap:Nat
  es:Nat
  mp:Bool
  off:Z8→Nat
  ok:Z8→Prop
abbrev Xf:=Nat→Option K1
abbrev Ov:=List (Z8×Option Nat)
def Uc (ρ:Xf) (g:Nat) (v:Value):Prop :=
  ∃ s a,ρ g=some s∧s.mp=false∧v=.slice a s.len s.cap∧(0<s.cap→a=some ⟨s.b,0,none⟩)
mutual
def Zm (A:Nat→Prop) (ρ:Xf) (w:World):(τ:Ty)→den τ→Ov→List Value→Prop
  | .bool,x,_,cs=>cs=[.bool x]
  | .int k,x,_,cs=>cs=[.int k x]
  | .str,x,_,cs=>cs=[.string x]
  | .sl e,l,ov,cs=>∃ a n c,cs=[.slice a n c]∧(∀ g,([],some g)∈ov→Uc ρ g (.slice a n c)) ∧
      ((∀ o,([],o) ∉ ov)→n=List.length l∧n≤c∧(0<n→∃ b o ds,a=some ⟨b,o,none⟩∧A b∧w.rangeAt b o ds∧ds.length=n * Zj e ∧
        ∀ i,i<n→Zm A ρ w e (List.getD l i (dft e)) [] ((ds.drop (i * Zj e)).take (Zj e))))
  | .arr n e,l,ov,cs=>List.length l=n∧cs.length=n * Zj e ∧
      ∀ i,i<n→Zm A ρ w e (List.getD l i (dft e)) (Jv [i] ov) ((cs.drop (i * Zj e)).take (Zj e))
  | .st fs,x,ov,cs=>Xs A ρ w fs 0 x ov cs
def Xs (A:Nat→Prop) (ρ:Xf) (w:World):(fs:List Ty)→Nat→K7 fs→Ov→List Value→Prop
  | [],_,_,_,cs=>cs=[]
  | t :: r,j,x,ov,cs=>Zm A ρ w t x.1 (Jv [j] ov) (cs.take (Zj t))∧Xs A ρ w r (j+1) x.2 ov (cs.drop (Zj t))
end
mutual
theorem Zm.length {A:Nat→Prop} {ρ:Xf} {w:World}:(τ:Ty)→{x:den τ}→{ov:Ov}→{cs:List Value}→Zm A ρ w τ x ov cs→cs.length=Zj τ
  | .bool,_,_,_,h=>by simp only [Zm] at h; subst h; rfl
  | .int _,_,_,_,h=>by simp only [Zm] at h; subst h; rfl
  | .str,_,_,_,h=>by simp only [Zm] at h; subst h; rfl
  | .sl _,_,_,_,h=>by simp only [Zm] at h; obtain ⟨_,_,_,rfl,_⟩:=h; rfl
  | .arr n e,_,_,_,h=>by simp only [Zm] at h; simpa only [Zj] using h.2.1
  | .st fs,_,_,_,h=>by simp only [Zm] at h; simpa only [Zj] using Xs.length fs h
theorem Xs.length {A:Nat→Prop} {ρ:Xf} {w:World}:(fs:List Ty)→{j:Nat}→{x:K7 fs}→{ov:Ov}→{cs:List Value}→Xs A ρ w fs j x ov cs→cs.length=Gi fs
  | [],_,_,_,_,h=>by simp only [Xs] at h; subst h; rfl
  | t :: r,_,_,_,_,h=>by
    simp only [Xs] at h
    have h1:=Zm.length t h.1
    have h2:=Xs.length r h.2
    simp only [List.length_take,List.length_drop] at h1 h2
    simp only [Gi]
    omega
end
mutual
theorem Zm.mono {A A':Nat→Prop} {ρ ρ':Xf} {w w':World} (hA:∀ b,A b→A' b) (hρ:∀ g s,ρ g=some s→ρ' g=some s)
    (hw:∀ b,A b→w'.heap[b]?=w.heap[b]?):(τ:Ty)→{x:den τ}→{ov:Ov}→{cs:List Value}→Zm A ρ w τ x ov cs→Zm A' ρ' w' τ x ov cs
  | .bool,_,_,_,h=>by simpa only [Zm] using h
  | .int _,_,_,_,h=>by simpa only [Zm] using h
  | .str,_,_,_,h=>by simpa only [Zm] using h
  | .sl e,_,_,_,h=>by
    simp only [Zm] at h ⊢
    obtain ⟨a,n,c,h1,h2,h3⟩:=h
    refine ⟨a,n,c,h1,fun g hg => ?_,fun hn=>⟨(h3 hn).1,(h3 hn).2.1,fun hp => ?_⟩⟩
    · obtain ⟨s,ad,k1,k2⟩:=h2 g hg
      exact ⟨s,ad,hρ _ _ k1,k2⟩
    · obtain ⟨b,o,ds,k1,k2,k3,k4,k5⟩:=(h3 hn).2.2 hp
      refine ⟨b,o,ds,k1,hA b k2,fun j v hv => ?_,k4,fun i hi=>Zm.mono hA hρ hw e (k5 i hi)⟩
      have:=k3 j v hv
      unfold World.cell? at this ⊢
      simp only [hw b k2]
      exact this
  | .arr n e,_,_,_,h=>by
    simp only [Zm] at h ⊢
    exact ⟨h.1,h.2.1,fun i hi=>Zm.mono hA hρ hw e (h.2.2 i hi)⟩
  | .st fs,_,_,_,h=>by simp only [Zm] at h ⊢; exact Xs.mono hA hρ hw fs h
theorem Xs.mono {A A':Nat→Prop} {ρ ρ':Xf} {w w':World} (hA:∀ b,A b→A' b) (hρ:∀ g s,ρ g=some s→ρ' g=some s)
    (hw:∀ b,A b→w'.heap[b]?=w.heap[b]?):(fs:List Ty)→{j:Nat}→{x:K7 fs}→{ov:Ov}→{cs:List Value}→Xs A ρ w fs j x ov cs→Xs A' ρ' w' fs j x ov cs
  | [],_,_,_,_,h=>by simpa only [Xs] using h
  | t :: r,_,_,_,_,h=>by
    simp only [Xs] at h ⊢
    exact ⟨Zm.mono hA hρ hw t h.1,Xs.mono hA hρ hw r h.2⟩
end
theorem Qa {p q:Z8} {o:Option Nat}:{ov:Ov}→((q,o)∈Jv p ov↔(p ++ q,o)∈ov):=by
  have Ux:∀ (p q r:Z8),H0 p q=some r↔q=p ++ r:=by
    intro p
    induction p with
    | nil=>intro q r; simp [H0,eq_comm]
    | cons i p ih =>
      intro q r
      cases q with
      | nil=>simp [H0]
      | cons j q =>
        simp only [H0]
        cases hb:Nat.beq i j with
        | true =>
          have:=Nat.eq_of_beq_eq_true hb
          subst this
          simp [ih]
        | false =>
          have:i≠j:=fun e=>by subst e; simp [Nat.beq_refl] at hb
          simp [Ne.symm this]
  intro ov
  induction ov with
  | nil=>simp [Jv]
  | cons e r ih =>
    obtain ⟨q',o'⟩:=e
    simp only [Jv]
    cases hs:H0 p q' with
    | none =>
      simp only [List.mem_cons,Prod.mk.injEq]
      rw [ih]
      constructor
      · exact .inr
      · rintro (⟨h,_⟩ | h)
        · rw [(Ux p q' q).2 h.symm] at hs; cases hs
        · exact h
    | some q'' =>
      have:=(Ux p q' q'').1 hs
      subst this
      simp only [List.mem_cons,Prod.mk.injEq,ih,List.append_cancel_left_eq]
theorem Dl {ov ov':Ov} (h:∀ e,e∈ov↔e∈ov') (p:Z8):∀ e,e∈Jv p ov↔e∈Jv p ov':=fun ⟨q,o⟩=>by
  rw [Qa,Qa]; exact h _
mutual
theorem Zm.ov {A:Nat→Prop} {ρ:Xf} {w:World}:(τ:Ty)→{x:den τ}→{ov ov':Ov}→{cs:List Value}→(∀ e,e∈ov↔e∈ov')→Zm A ρ w τ x ov cs→Zm A ρ w τ x ov' cs
  | .bool,_,_,_,_,_,h=>by simpa only [Zm] using h
  | .int _,_,_,_,_,_,h=>by simpa only [Zm] using h
  | .str,_,_,_,_,_,h=>by simpa only [Zm] using h
  | .sl e,_,_,_,_,he,h=>by
    simp only [Zm] at h ⊢
    obtain ⟨a,n,c,h1,h2,h3⟩:=h
    exact ⟨a,n,c,h1,fun g hg=>h2 g ((he _).2 hg),fun hn=>h3 (fun o ho=>hn o ((he _).1 ho))⟩
  | .arr n e,_,_,_,_,he,h=>by
    simp only [Zm] at h ⊢
    exact ⟨h.1,h.2.1,fun i hi=>Zm.ov e (Dl he _) (h.2.2 i hi)⟩
  | .st fs,_,_,_,_,he,h=>by simp only [Zm] at h ⊢; exact Xs.ov fs he h
theorem Xs.ov {A:Nat→Prop} {ρ:Xf} {w:World}:(fs:List Ty)→{j:Nat}→{x:K7 fs}→{ov ov':Ov}→{cs:List Value}→(∀ e,e∈ov↔e∈ov')→Xs A ρ w fs j x ov cs→Xs A ρ w fs j x ov' cs
  | [],_,_,_,_,_,_,h=>by simpa only [Xs] using h
  | t :: r,_,_,_,_,_,he,h=>by
    simp only [Xs] at h ⊢
    exact ⟨Zm.ov t (Dl he _) h.1,Xs.ov r he h.2⟩
end
theorem Dm (p q:Z8) (ov:Ov):∀ e,e∈Jv q (Jv p ov)↔e∈Jv (p ++ q) ov:=fun ⟨r,o⟩=>by
  rw [Qa,Qa,Qa,List.append_assoc]
def cut (cs:List Value) (o n:Nat):List Value:=(cs.drop o).take n
theorem P9 (cs:List Value) (o n o' n':Nat) (h:o'+n'≤n):cut (cut cs o n) o' n'=cut cs (o+o') n':=by
  unfold cut
  rw [List.drop_take,List.drop_drop,List.take_take,Nat.min_eq_left (by omega)]
theorem Np (cs:List Value) (n:Nat):cut cs 0 n=cs.take n:=rfl
theorem AH1 (cs:List Value) (n:Nat) (h:cs.length=n):cut cs 0 n=cs:=by subst h; simp [cut]
mutual
theorem Oo:(τ:Ty)→(p:Z8)→(x:den τ)→(d:Dyn)→okP τ p→getP p τ x=some d→Jd τ p+Zj d.τ≤Zj τ
  | τ,[],x,d,_,h=>by
    have:d=⟨τ,x⟩:=by cases τ <;> simpa [getP,eq_comm] using h
    subst this
    cases τ <;> simp [Jd]
  | .st fs,i :: p,x,d,hk,h=>by
    simp only [Jd,Zj]
    simp only [okP] at hk
    simp only [getP] at h
    exact AIj fs i p x d hk h
  | .arr n e,i :: p,x,d,hk,h=>by
    simp only [Jd,Zj]
    simp only [okP] at hk
    simp only [getP] at h
    have h1:=Oo e p _ d hk.2 h
    have:(i+1) * Zj e≤n * Zj e:=Nat.mul_le_mul_right _ hk.1
    rw [Nat.add_mul,Nat.one_mul] at this
    omega
  | .bool,_ :: _,_,_,hk,_=>by simp [okP] at hk
  | .int _,_ :: _,_,_,hk,_=>by simp [okP] at hk
  | .str,_ :: _,_,_,hk,_=>by simp [okP] at hk
  | .sl _,_ :: _,_,_,hk,_=>by simp [okP] at hk
theorem AIj:(fs:List Ty)→(i:Nat)→(p:Z8)→(x:K7 fs)→(d:Dyn)→okF fs i p →
    (match Gs fs i x with | some d=>getP p d.τ d.x | none=>none)=some d→Gv fs i p+Zj d.τ≤Gi fs
  | [],_,_,_,_,hk,_=>by simp [okF] at hk
  | t :: r,0,p,x,d,hk,h=>by
    simp only [okF] at hk
    simp only [Gs] at h
    have:=Oo t p x.1 d hk h
    simp only [Gv,Gi]
    omega
  | t :: r,n+1,p,x,d,hk,h=>by
    simp only [okF] at hk
    simp only [Gs] at h
    have:=AIj r n p x.2 d hk h
    simp only [Gv,Gi]
    omega
end
mutual
theorem Zm.getP {A:Nat→Prop} {ρ:Xf} {w:World}:(τ:Ty)→(p:Z8)→{x:den τ}→{ov:Ov}→{cs:List Value}→{d:Dyn}→Zm A ρ w τ x ov cs→okP τ p →
    getP p τ x=some d→Zm A ρ w d.τ d.x (Jv p ov) (cut cs (Jd τ p) (Zj d.τ))
  | τ,[],x,ov,cs,d,h,_,hg=>by
    have:d=⟨τ,x⟩:=by cases τ <;> simpa [Ghost.getP,eq_comm] using hg
    subst this
    have h0:Jd τ []=0:=by cases τ <;> rfl
    rw [h0,AH1 _ _ (Zm.length τ h)]
    exact Zm.ov τ (fun ⟨q,o⟩=>by rw [Qa]; rfl) h
  | .st fs,i :: p,x,ov,cs,d,h,hk,hg=>by
    simp only [Zm] at h
    simp only [okP] at hk
    simp only [Ghost.getP] at hg
    simp only [Jd]
    have:=Xs.getP fs 0 i p h hk hg
    simpa only [Nat.zero_add] using this
  | .arr n e,i :: p,x,ov,cs,d,h,hk,hg=>by
    simp only [Zm] at h
    simp only [okP] at hk
    simp only [Ghost.getP] at hg
    simp only [Jd]
    have h1:=Zm.getP e p (h.2.2 i hk.1) hk.2 hg
    have h2:=Oo e p _ d hk.2 hg
    rw [show (List.drop (i * Zj e) cs).take (Zj e)=cut cs (i * Zj e) (Zj e) from rfl,P9 _ _ _ _ _ h2] at h1
    exact Zm.ov d.τ (Dm [i] p ov) h1
  | .bool,_ :: _,_,_,_,_,_,hk,_=>by simp [okP] at hk
  | .int _,_ :: _,_,_,_,_,_,hk,_=>by simp [okP] at hk
  | .str,_ :: _,_,_,_,_,_,hk,_=>by simp [okP] at hk
  | .sl _,_ :: _,_,_,_,_,_,hk,_=>by simp [okP] at hk
theorem Xs.getP {A:Nat→Prop} {ρ:Xf} {w:World}:(fs:List Ty)→(j i:Nat)→(p:Z8)→{x:K7 fs}→{ov:Ov}→{cs:List Value}→{d:Dyn}→Xs A ρ w fs j x ov cs→okF fs i p →
    (match Gs fs i x with | some d=>Ghost.getP p d.τ d.x | none=>none)=some d→Zm A ρ w d.τ d.x (Jv ((j+i) :: p) ov) (cut cs (Gv fs i p) (Zj d.τ))
  | [],_,_,_,_,_,_,_,_,hk,_=>by simp [okF] at hk
  | t :: r,j,0,p,x,ov,cs,d,h,hk,hg=>by
    simp only [Xs] at h
    simp only [okF] at hk
    simp only [Gs] at hg
    simp only [Gv]
    have h1:=Zm.getP t p h.1 hk hg
    have h2:=Oo t p _ d hk hg
    rw [← Np,P9 _ _ _ _ _ h2,Nat.zero_add] at h1
    exact Zm.ov d.τ (Dm [j] p ov) h1
  | t :: r,j,n+1,p,x,ov,cs,d,h,hk,hg=>by
    simp only [Xs] at h
    simp only [okF] at hk
    simp only [Gs] at hg
    simp only [Gv]
    have h1:=Xs.getP r (j+1) n p h.2 hk hg
    have:cut (List.drop (Zj t) cs) (Gv r n p) (Zj d.τ)=cut cs (Zj t+Gv r n p) (Zj d.τ):=by
      unfold cut; rw [List.drop_drop]
    rw [this] at h1
    rw [show j+(n+1)=j+1+n by omega]
    exact h1
end
end Go.Proofs.YtjobjooccgledaaGreatDoor.Ghost
namespace Go.Proofs.YtjobjooccgledaaGreatDoor.Ghost
open Go
def Vq (cs:List Value) (o:Nat) (ds:List Value):List Value:=cs.take o ++ ds ++ cs.drop (o+ds.length)
theorem J5 {cs:List Value} {o:Nat} {ds:List Value} (h:o+ds.length≤cs.length):(Vq cs o ds).length=cs.length:=by
  simp only [Vq,List.length_append,List.length_take,List.length_drop]; omega
theorem Qy {cs:List Value} {o:Nat} {ds:List Value} (h:o+ds.length≤cs.length) (k:Nat) :
    (Vq cs o ds)[k]?=if k<o then cs[k]? else if k<o+ds.length then ds[k - o]? else cs[k]?:=by
  simp only [Vq,List.append_assoc]
  by_cases h1:k<o
  · rw [if_pos h1,List.getElem?_append_left (by simp; omega),List.getElem?_take_of_lt h1]
  · rw [if_neg h1,List.getElem?_append_right (by simp; omega)]
    have:(List.take o cs).length=o:=by simp; omega
    rw [this]
    by_cases h2:k<o+ds.length
    · rw [if_pos h2,List.getElem?_append_left (by omega)]
    · rw [if_neg h2,List.getElem?_append_right (by omega),List.getElem?_drop]
      congr 1; omega
theorem Qx {cs:List Value} {o n:Nat} (k:Nat):(cut cs o n)[k]?=if k<n then cs[o+k]? else none:=by
  unfold cut
  by_cases h:k<n
  · rw [if_pos h,List.getElem?_take_of_lt h,List.getElem?_drop]
  · rw [if_neg h,List.getElem?_eq_none]; simp; omega
theorem Ol {cs:List Value} {o n:Nat} (h:o+n≤cs.length):(cut cs o n).length=n:=by
  unfold cut; simp only [List.length_take,List.length_drop]; omega
theorem U1 {cs:List Value} {o n o':Nat} {ds:List Value} (h:o+n≤cs.length) (h':o'+ds.length≤n) :
    cut (Vq cs (o+o') ds) o n=Vq (cut cs o n) o' ds:=by
  refine List.ext_getElem? fun k => ?_
  have hl:(cut cs o n).length=n:=Ol h
  rw [Qx,Qy (by omega),Qy (by omega),Qx]
  by_cases h1:k<n
  · simp only [h1,if_true]
    by_cases h2:k<o'
    · rw [if_pos (by omega),if_pos h2]
    · rw [if_neg (by omega),if_neg h2]
      by_cases h3:k<o'+ds.length
      · rw [if_pos (by omega),if_pos h3]; congr 1; omega
      · rw [if_neg (by omega),if_neg h3]
  · simp only [h1,if_false]
    rw [if_neg (by omega),if_neg (by omega)]
theorem Hv {cs:List Value} {o n o':Nat} {ds:List Value} (h:o'+ds.length≤cs.length) (h':o+n≤o'∨o'+ds.length≤o) :
    cut (Vq cs o' ds) o n=cut cs o n:=by
  refine List.ext_getElem? fun k => ?_
  rw [Qx,Qx,Qy h]
  by_cases h1:k<n
  · simp only [h1,if_true]
    rcases h' with h' | h'
    · rw [if_pos (by omega)]
    · rw [if_neg (by omega),if_neg (by omega)]
  · simp only [h1,if_false]
theorem Re (cs:List Value) (o:Nat):cs.drop o=cut cs o (cs.length - o):=by
  unfold cut; rw [List.take_of_length_le]; simp
def U7 (p:Z8) (ov ov' ov'':Ov):Prop:=∀ e,e∈ov''↔(e∈ov∧H0 p e.1=none)∨(∃ q,H0 p e.1=some q∧(q,e.2)∈ov')
theorem U7.nil {ov ov' ov'':Ov} (h:U7 [] ov ov' ov''):∀ e,e∈ov'↔e∈ov'':=fun ⟨q,o⟩=>by
  rw [h (q,o)]; simp [H0]
theorem U7.same {i:Nat} {p:Z8} {ov ov' ov'':Ov} (h:U7 (i :: p) ov ov' ov''):U7 p (Jv [i] ov) ov' (Jv [i] ov''):=fun ⟨q,o⟩=>by
  rw [Qa,Qa,h ([i] ++ q,o)]; simp [H0]
theorem U7.other {i j:Nat} {p:Z8} {ov ov' ov'':Ov} (h:U7 (i :: p) ov ov' ov'') (hij:j≠i):∀ e,e∈Jv [j] ov↔e∈Jv [j] ov'':=fun ⟨q,o⟩=>by
  have:Nat.beq i j=false:=by
    cases hb:Nat.beq i j with
    | false=>rfl
    | true=>exact absurd (Nat.eq_of_beq_eq_true hb).symm hij
  rw [Qa,Qa,h ([j] ++ q,o)]; simp [H0,this]
theorem ABh {e x:Z8×Option Nat}:{ov:Ov}→(x∈AFp e ov↔x=e∨x∈ov)
  | []=>by simp [AFp]
  | y :: r=>by
    simp only [AFp]
    split
    · simp
    · simp only [List.mem_cons,ABh (ov:=r)]
      constructor
      · rintro (h | h | h) <;> simp [h]
      · rintro (h | h | h) <;> simp [h]
theorem N3 {x:Z8×Option Nat}:{a b:Ov}→(x∈Mx a b↔x∈a∨x∈b)
  | [],_=>by simp [Mx]
  | e :: r,b=>by
    simp only [Mx,N3 (a:=r),ABh,List.mem_cons]
    constructor
    · rintro (h | h | h) <;> simp [h]
    · rintro ((h | h) | h) <;> simp [h]
theorem Mu {p:Z8} {e:Z8×Option Nat}:{ov:Ov}→(e∈Dk p ov↔∃ q,e.1=p ++ q∧(q,e.2)∈ov)
  | []=>by simp [Dk]
  | (q',o') :: r=>by
    obtain ⟨q,o⟩:=e
    simp only [Dk,List.mem_cons,Mu (ov:=r),Prod.mk.injEq]
    constructor
    · rintro (⟨rfl,rfl⟩ | ⟨q'',h1,h2⟩)
      · exact ⟨q',rfl,.inl ⟨rfl,rfl⟩⟩
      · exact ⟨q'',h1,.inr h2⟩
    · rintro ⟨q'',h1,⟨rfl,rfl⟩ | h2⟩
      · exact .inl ⟨h1,rfl⟩
      · exact .inr ⟨q'',h1,h2⟩
theorem Tw {p:Z8} {e:Z8×Option Nat}:{ov:Ov}→(e∈Oq p ov↔e∈ov∧H0 p e.1=none)
  | []=>by simp [Oq]
  | (q',o') :: r=>by
    obtain ⟨q,o⟩:=e
    simp only [Oq]
    cases hs:H0 p q' with
    | none =>
      simp only [List.mem_cons,Tw (ov:=r),Prod.mk.injEq]
      constructor
      · rintro (⟨rfl,rfl⟩ | h)
        · exact ⟨.inl ⟨rfl,rfl⟩,hs⟩
        · exact ⟨.inr h.1,h.2⟩
      · rintro ⟨⟨rfl,rfl⟩ | h,h'⟩
        · exact .inl ⟨rfl,rfl⟩
        · exact .inr ⟨h,h'⟩
    | some q'' =>
      simp only [List.mem_cons,Tw (ov:=r),Prod.mk.injEq]
      constructor
      · rintro ⟨h,h'⟩; exact ⟨.inr h,h'⟩
      · rintro ⟨⟨rfl,rfl⟩ | h,h'⟩
        · rw [hs] at h'; cases h'
        · exact ⟨h,h'⟩
theorem Ux {p q r:Z8}:H0 p q=some r↔q=p ++ r:=by
  induction p generalizing q r with
  | nil=>simp [H0]
  | cons i p ih =>
    cases q with
    | nil=>simp [H0]
    | cons j q =>
      simp only [H0]
      cases hb:Nat.beq i j with
      | true =>
        have:=Nat.eq_of_beq_eq_true hb
        subst this
        simp [ih]
      | false =>
        have:i≠j:=fun e=>by subst e; simp [Nat.beq_refl] at hb
        simp [Ne.symm this]
theorem U7.merge (p:Z8) (ov ov':Ov):U7 p ov ov' (Mx (Dk p ov') (Oq p ov)):=fun e=>by
  rw [N3,Mu,Tw]
  constructor
  · rintro (⟨q,h1,h2⟩ | h)
    · exact .inr ⟨q,Ux.2 h1,h2⟩
    · exact .inl h
  · rintro (h | ⟨q,h1,h2⟩)
    · exact .inr h
    · exact .inl ⟨q,Ux.1 h1,h2⟩
theorem X8 {a b:Ty} {x:den a} {y:den b} (h:Jc a b x=some y):(⟨a,x⟩:Dyn)=⟨b,y⟩:=by
  unfold Jc at h
  split at h
  · rename_i e _
    subst e
    simp at h
    subst h; rfl
  · cases h
mutual
theorem Uw:(τ:Ty)→(p:Z8)→(x x':den τ)→(d:Dyn)→okP τ p→setP τ p x d=some x'→Jd τ p+Zj d.τ≤Zj τ
  | τ,[],x,x',d,_,h=>by
    have hc:Jc d.τ τ d.x=some x':=by cases τ <;> simpa only [setP] using h
    have:=X8 hc
    obtain ⟨σ,y⟩:=d
    cases this
    show Jd σ []+Zj σ≤Zj σ
    cases σ <;> simp [Jd]
  | .st fs,i :: p,x,x',d,hk,h=>by
    simp only [Jd,Zj]
    simp only [okP] at hk
    simp only [setP] at h
    exact Ep fs i p x x' d hk h
  | .arr n e,i :: p,x,x',d,hk,h=>by
    simp only [Jd,Zj]
    simp only [okP] at hk
    simp only [setP] at h
    cases hs:setP e p (List.getD x i (dft e)) d with
    | none=>rw [hs] at h; cases h
    | some y =>
      have h1:=Uw e p _ _ d hk.2 hs
      have:(i+1) * Zj e≤n * Zj e:=Nat.mul_le_mul_right _ hk.1
      rw [Nat.add_mul,Nat.one_mul] at this
      omega
  | .bool,_ :: _,_,_,_,hk,_=>by simp [okP] at hk
  | .int _,_ :: _,_,_,_,hk,_=>by simp [okP] at hk
  | .str,_ :: _,_,_,_,hk,_=>by simp [okP] at hk
  | .sl _,_ :: _,_,_,_,hk,_=>by simp [okP] at hk
theorem Ep:(fs:List Ty)→(i:Nat)→(p:Z8)→(x x':K7 fs)→(d:Dyn)→okF fs i p →
    Ko fs i p x d=some x'→Gv fs i p+Zj d.τ≤Gi fs
  | [],_,_,_,_,_,hk,_=>by simp [okF] at hk
  | t :: r,0,p,x,x',d,hk,h=>by
    simp only [okF] at hk
    simp only [Ko] at h
    cases hs:setP t p x.1 d with
    | none=>rw [hs] at h; cases h
    | some y =>
      have:=Uw t p x.1 y d hk hs
      simp only [Gv,Gi]
      omega
  | t :: r,n+1,p,x,x',d,hk,h=>by
    simp only [okF] at hk
    simp only [Ko] at h
    cases hs:Ko r n p x.2 d with
    | none=>rw [hs] at h; cases h
    | some y =>
      have:=Ep r n p x.2 y d hk hs
      simp only [Gv,Gi]
      omega
end
mutual
theorem Zm.setP {A:Nat→Prop} {ρ:Xf} {w:World}:(τ:Ty)→(p:Z8)→{x x':den τ}→{ov ov' ov'':Ov}→{cs ds:List Value}→{d:Dyn} →
    Zm A ρ w τ x ov cs→okP τ p→setP τ p x d=some x'→Zm A ρ w d.τ d.x ov' ds→U7 p ov ov' ov''→Zm A ρ w τ x' ov'' (Vq cs (Jd τ p) ds)
  | τ,[],x,x',ov,ov',ov'',cs,ds,d,h,_,hs,hd,hv=>by
    have hc:Jc d.τ τ d.x=some x':=by cases τ <;> simpa only [Ghost.setP] using hs
    have:=X8 hc
    obtain ⟨σ,y⟩:=d
    cases this
    have h0:Jd σ []=0:=by cases σ <;> rfl
    have h1:=Zm.length σ h
    have h2:ds.length=Zj σ:=Zm.length σ hd
    have:Vq cs (Jd σ []) ds=ds:=by
      unfold Vq
      rw [h0,Nat.zero_add,List.drop_eq_nil_of_le (by omega)]; simp
    rw [this]
    exact Zm.ov σ hv.nil hd
  | .st fs,i :: p,x,x',ov,ov',ov'',cs,ds,d,h,hk,hs,hd,hv=>by
    simp only [Zm] at h ⊢
    simp only [okP] at hk
    simp only [Ghost.setP] at hs
    simp only [Jd]
    exact Xs.setP fs 0 i p h hk hs hd (by rw [Nat.zero_add]; exact hv)
  | .arr n e,i :: p,x,x',ov,ov',ov'',cs,ds,d,h,hk,hs,hd,hv=>by
    simp only [Zm] at h ⊢
    simp only [okP] at hk
    simp only [Ghost.setP] at hs
    simp only [Jd]
    cases hy:Ghost.setP e p (List.getD x i (dft e)) d with
    | none=>rw [hy] at hs; cases hs
    | some y =>
      rw [hy] at hs
      simp only [Option.some.injEq] at hs
      subst hs
      have h2:=Zm.length d.τ hd
      have h3:=Uw e p _ _ d hk.2 hy
      have h4:(i+1) * Zj e≤n * Zj e:=Nat.mul_le_mul_right _ hk.1
      rw [Nat.add_mul,Nat.one_mul] at h4
      refine ⟨by simpa using h.1,by rw [J5 (by omega)]; exact h.2.1,fun k hkn => ?_⟩
      have h4':(k+1) * Zj e≤n * Zj e:=Nat.mul_le_mul_right _ hkn
      rw [Nat.add_mul,Nat.one_mul] at h4'
      have hget:=h.2.2 k hkn
      change Zm A ρ w e _ _ (cut cs (k * Zj e) (Zj e)) at hget
      change Zm A ρ w e _ _ (cut _ (k * Zj e) (Zj e))
      by_cases hki:k=i
      · subst hki
        have h5:=Zm.setP e p hget hk.2 hy hd hv.same
        rw [U1 (by omega) (by omega)]
        have:List.getD (List.set x k y) k (dft e)=y:=by
          have hl:k<List.length x:=by omega
          rw [List.getD_eq_getElem?_getD,List.getElem?_set_self hl]; rfl
        rw [this]; exact h5
      · have:List.getD (List.set x i y) k (dft e)=List.getD x k (dft e):=by
          rw [List.getD_eq_getElem?_getD,List.getElem?_set_ne (Ne.symm hki),← List.getD_eq_getElem?_getD]
        rw [this,Hv (by omega) ?_]
        · exact Zm.ov e (hv.other hki) hget
        · rcases Nat.lt_or_gt_of_ne hki with hlt | hgt
          · left
            have:(k+1) * Zj e≤i * Zj e:=Nat.mul_le_mul_right _ hlt
            rw [Nat.add_mul,Nat.one_mul] at this
            omega
          · right
            have:(i+1) * Zj e≤k * Zj e:=Nat.mul_le_mul_right _ hgt
            rw [Nat.add_mul,Nat.one_mul] at this
            omega
  | .bool,_ :: _,_,_,_,_,_,_,_,_,_,hk,_,_,_=>by simp [okP] at hk
  | .int _,_ :: _,_,_,_,_,_,_,_,_,_,hk,_,_,_=>by simp [okP] at hk
  | .str,_ :: _,_,_,_,_,_,_,_,_,_,hk,_,_,_=>by simp [okP] at hk
  | .sl _,_ :: _,_,_,_,_,_,_,_,_,_,hk,_,_,_=>by simp [okP] at hk
theorem Xs.setP {A:Nat→Prop} {ρ:Xf} {w:World}:(fs:List Ty)→(j i:Nat)→(p:Z8)→{x x':K7 fs}→{ov ov' ov'':Ov}→{cs ds:List Value}→{d:Dyn} →
    Xs A ρ w fs j x ov cs→okF fs i p→Ko fs i p x d=some x'→Zm A ρ w d.τ d.x ov' ds→U7 ((j+i) :: p) ov ov' ov''→Xs A ρ w fs j x' ov'' (Vq cs (Gv fs i p) ds)
  | [],_,_,_,_,_,_,_,_,_,_,_,_,hk,_,_,_=>by simp [okF] at hk
  | t :: r,j,0,p,x,x',ov,ov',ov'',cs,ds,d,h,hk,hs,hd,hv=>by
    have hlen:=Xs.length (t :: r) h
    simp only [Gi] at hlen
    simp only [Xs] at h ⊢
    simp only [okF] at hk
    simp only [Ko] at hs
    simp only [Gv]
    cases hy:Ghost.setP t p x.1 d with
    | none=>rw [hy] at hs; cases hs
    | some y =>
      rw [hy] at hs
      simp only [Option.some.injEq] at hs
      subst hs
      have h2:=Zm.length d.τ hd
      have h3:=Uw t p _ _ d hk hy
      have h5:=Zm.setP t p h.1 hk hy hd hv.same
      refine ⟨?_,?_⟩
      · have:=U1 (cs:=cs) (o:=0) (n:=Zj t) (o':=Jd t p) (ds:=ds) (by omega) (by omega)
        rw [Nat.zero_add] at this
        rw [← Np,this]; exact h5
      · have:(Vq cs (Jd t p) ds).drop (Zj t)=cs.drop (Zj t):=by
          rw [Re,J5 (by omega),Hv (by omega) (by omega),← Re]
        rw [this]
        exact Xs.skip r (j+1) (i:=j) (by omega) h.2 hv
  | t :: r,j,n+1,p,x,x',ov,ov',ov'',cs,ds,d,h,hk,hs,hd,hv=>by
    have hlen:=Xs.length (t :: r) h
    simp only [Gi] at hlen
    simp only [Xs] at h ⊢
    simp only [okF] at hk
    simp only [Ko] at hs
    simp only [Gv]
    cases hy:Ghost.Ko r n p x.2 d with
    | none=>rw [hy] at hs; cases hs
    | some y =>
      rw [hy] at hs
      simp only [Option.some.injEq] at hs
      subst hs
      have h2:=Zm.length d.τ hd
      have h3:=Ep r n p _ _ d hk hy
      have h5:=Xs.setP r (j+1) n p h.2 hk hy hd (by rw [show j+1+n=j+(n+1) by omega]; exact hv)
      refine ⟨?_,?_⟩
      · rw [← Np,Hv (by omega) (by omega),Np]
        exact Zm.ov t (hv.other (by omega)) h.1
      · have:(Vq cs (Zj t+Gv r n p) ds).drop (Zj t)=Vq (cs.drop (Zj t)) (Gv r n p) ds:=by
          rw [Re,J5 (by omega),U1 (by omega) (by omega),← Re]
        rw [this]; exact h5
theorem Xs.skip {A:Nat→Prop} {ρ:Xf} {w:World}:(fs:List Ty)→(j:Nat)→{i:Nat}→{p:Z8}→{x:K7 fs}→{ov ov' ov'':Ov}→{cs:List Value}→i<j →
    Xs A ρ w fs j x ov cs→U7 (i :: p) ov ov' ov''→Xs A ρ w fs j x ov'' cs
  | [],_,_,_,_,_,_,_,_,_,h,_=>by simpa only [Xs] using h
  | t :: r,j,i,p,x,ov,ov',ov'',cs,hij,h,hv=>by
    simp only [Xs] at h ⊢
    exact ⟨Zm.ov t (hv.other (by omega)) h.1,Xs.skip r (j+1) (by omega) h.2 hv⟩
end
end Go.Proofs.YtjobjooccgledaaGreatDoor.Ghost
namespace Go.Proofs.YtjobjooccgledaaGreatDoor.Ghost
open Go
def Ua:Ty→Bool
  | .st _=>true
  | .arr _ _=>true
  | _=>false
def mkV (τ:Ty) (cs:List Value):Value:=match Ua τ with
  | true=>.agg cs.toArray
  | false=>cs.headD undef
theorem Ji {A:Nat→Prop} {ρ:Xf} {w:World} {τ:Ty} {x:den τ} {ov:Ov} {cs:List Value} (h:Zm A ρ w τ x ov cs):(mkV τ cs).cells.toList=cs:=by
  cases τ with
  | bool=>simp only [Zm] at h; subst h; rfl
  | int k=>simp only [Zm] at h; subst h; rfl
  | str=>simp only [Zm] at h; subst h; rfl
  | sl e=>simp only [Zm] at h; obtain ⟨_,_,_,rfl,_⟩:=h; rfl
  | arr n e=>rfl
  | st fs=>rfl
def Yr:List Value→List Value
  | []=>[]
  | v :: r=>v.cells.toList ++ Yr r
def Ws:List SV→List Value→Prop
  | u :: r,v :: s=>v.cells.size=Jb u∧(∀ c∈v.cells.toList,c.oneCell'=true)∧Ws r s
  | _,_=>True
mutual
def Zl (A:Nat→Prop) (ρ:Xf) (w:World):SV→Value→Prop
  | .dat τ x ov,v=>∃ cs,Zm A ρ w τ x ov cs∧v=mkV τ cs
  | .ptr g p,v=>∃ s,ρ g=some s∧s.ok p∧v=(match s.mp with | true=>.map (some s.b) | false=>.pointer (some ⟨s.b,s.off p,none⟩))
  | .ref τ x,v=>∃ b o cs,v=.pointer (some ⟨b,o,none⟩)∧A b∧w.rangeAt b o cs∧Zm A ρ w τ x [] cs
  | .refv u,v=>∃ b o u',v=.pointer (some ⟨b,o,none⟩)∧A b∧w.rangeAt b o (Value.cells u').toList∧Zl A ρ w u u'
  | .selfc f us,v=>∃ b o,v=.pointer (some ⟨b,o,none⟩)∧A b∧∃ vs:List Value,w.rangeAt b o [.func (.func f) #[] (v :: vs).toArray]∧Zs A ρ w us vs
  | .glo k,v=>v=.pointer (some ⟨k,0,none⟩)
  | .elp g i p,v=>∃ s,ρ g=some s∧s.mp=false∧i<s.len∧s.ok p∧v=.pointer (some ⟨s.b,i * s.es+s.off p,none⟩)
  | .clo f caps,v=>∃ vs:List Value,v=.func (.func f) #[] vs.toArray∧Zs A ρ w caps vs
  | .tup us,v=>∃ vs:List Value,v=.tuple vs.toArray∧Zs A ρ w us vs
  | .slv us,v=>∃ a n c,v=.slice a n c∧n=us.length∧∃ vs,Zs A ρ w us vs∧Ws us vs∧(∃ z,∀ u,u∈us→Jb u=z)∧(0<n→∃ b o,a=some ⟨b,o,none⟩∧A b∧w.rangeAt b o (Yr vs))
  | .fmap ks us,v=>∃ b es c,v=.map (some b)∧A b∧w.heap[b]?=some (.map es c)∧ks.Nodup∧∃ l:List MapEntry,l.Perm es.toList∧l.map (·.key)=ks.map (Value.int .i64)∧Zs A ρ w us (l.map (·.val))
  | .agv us,v=>∃ vs,v=.agg (Yr vs).toArray∧Zs A ρ w us vs∧Ws us vs
  | .nilfn,v=>v=.nilFunc
  | .und,v=>v=undef
  | .junk,_=>True
def Zs (A:Nat→Prop) (ρ:Xf) (w:World):List SV→List Value→Prop
  | [],vs=>vs=[]
  | u :: r,vs=>∃ v vs',vs=v :: vs'∧Zl A ρ w u v∧Zs A ρ w r vs'
end
theorem Ya {w w':World} {b o:Nat} {cs:List Value} (h:w'.heap[b]?=w.heap[b]?) (hr:w.rangeAt b o cs):w'.rangeAt b o cs:=fun j v hv=>by
  have:=hr j v hv
  unfold World.cell? at this ⊢
  simp only [h]
  exact this
theorem K4 {w w':World} {b o n:Nat} (h:w'.heap[b]?=w.heap[b]?) (hr:w.there b o n):w'.there b o n:=fun j hj=>by
  have:=hr j hj
  unfold World.cell? World.frozen? at this ⊢
  simp only [h]
  exact this
mutual
theorem Zl.mono {A A':Nat→Prop} {ρ ρ':Xf} {w w':World} (hA:∀ b,A b→A' b) (hρ:∀ g s,ρ g=some s→ρ' g=some s)
    (hw:∀ b,A b→w'.heap[b]?=w.heap[b]?):(u:SV)→{v:Value}→Zl A ρ w u v→Zl A' ρ' w' u v
  | .dat τ x ov,_,h=>by
    simp only [Zl] at h ⊢
    obtain ⟨cs,h1,h2⟩:=h
    exact ⟨cs,Zm.mono hA hρ hw τ h1,h2⟩
  | .ptr g p,_,h=>by
    simp only [Zl] at h ⊢
    obtain ⟨s,h1,h2⟩:=h
    exact ⟨s,hρ _ _ h1,h2⟩
  | .ref τ x,_,h=>by
    simp only [Zl] at h ⊢
    obtain ⟨b,o,cs,h1,h2,h3,h4⟩:=h
    exact ⟨b,o,cs,h1,hA b h2,Ya (hw b h2) h3,Zm.mono hA hρ hw τ h4⟩
  | .refv u,_,h=>by
    simp only [Zl] at h ⊢
    obtain ⟨b,o,u',h1,h2,h3,h4⟩:=h
    exact ⟨b,o,u',h1,hA b h2,Ya (hw b h2) h3,Zl.mono hA hρ hw u h4⟩
  | .selfc f us,_,h=>by
    simp only [Zl] at h ⊢
    obtain ⟨b,o,h1,h2,vs,h3,h4⟩:=h
    exact ⟨b,o,h1,hA b h2,vs,Ya (hw b h2) h3,Zs.mono hA hρ hw us h4⟩
  | .elp g i p,_,h=>by
    simp only [Zl] at h ⊢
    obtain ⟨s,h1,h2⟩:=h
    exact ⟨s,hρ _ _ h1,h2⟩
  | .clo f caps,_,h=>by
    simp only [Zl] at h ⊢
    obtain ⟨vs,h1,h2⟩:=h
    exact ⟨vs,h1,Zs.mono hA hρ hw caps h2⟩
  | .tup us,_,h=>by
    simp only [Zl] at h ⊢
    obtain ⟨vs,h1,h2⟩:=h
    exact ⟨vs,h1,Zs.mono hA hρ hw us h2⟩
  | .slv us,_,h=>by
    simp only [Zl] at h ⊢
    obtain ⟨a,n,c,h1,h2,vs,h3,h5,h6,h4⟩:=h
    refine ⟨a,n,c,h1,h2,vs,Zs.mono hA hρ hw us h3,h5,h6,fun hn => ?_⟩
    obtain ⟨b,o,k1,k2,k3⟩:=h4 hn
    exact ⟨b,o,k1,hA b k2,Ya (hw b k2) k3⟩
  | .fmap ks us,_,h=>by
    simp only [Zl] at h ⊢
    obtain ⟨b,es,c,h1,h2,h3,h4,l,h5,h6,h7⟩:=h
    exact ⟨b,es,c,h1,hA b h2,by rw [hw b h2]; exact h3,h4,l,h5,h6,Zs.mono hA hρ hw us h7⟩
  | .agv us,_,h=>by
    simp only [Zl] at h ⊢
    obtain ⟨vs,h1,h2,h3⟩:=h
    exact ⟨vs,h1,Zs.mono hA hρ hw us h2,h3⟩
  | .nilfn,_,h=>by simpa only [Zl] using h
  | .glo _,_,h=>by simpa only [Zl] using h
  | .und,_,h=>by simpa only [Zl] using h
  | .junk,_,_=>by simp only [Zl]
theorem Zs.mono {A A':Nat→Prop} {ρ ρ':Xf} {w w':World} (hA:∀ b,A b→A' b) (hρ:∀ g s,ρ g=some s→ρ' g=some s)
    (hw:∀ b,A b→w'.heap[b]?=w.heap[b]?):(us:List SV)→{vs:List Value}→Zs A ρ w us vs→Zs A' ρ' w' us vs
  | [],_,h=>by simpa only [Zs] using h
  | u :: r,_,h=>by
    simp only [Zs] at h ⊢
    obtain ⟨v,vs',h1,h2,h3⟩:=h
    exact ⟨v,vs',h1,Zl.mono hA hρ hw u h2,Zs.mono hA hρ hw r h3⟩
end
mutual
theorem Rq (f:Nat→Nat):(u:SV)→Jb (J6 f u)=Jb u
  | .dat _ _ _=>rfl
  | .ptr _ _=>rfl
  | .ref _ _=>rfl
  | .refv _=>rfl
  | .selfc _ _=>rfl
  | .glo _=>rfl
  | .elp _ _ _=>rfl
  | .clo _ _=>rfl
  | .tup _=>rfl
  | .slv _=>rfl
  | .fmap _ _=>rfl
  | .agv us=>by simp only [J6,Jb]; exact Fk f us
  | .nilfn=>rfl
  | .und=>rfl
  | .junk=>rfl
theorem Fk (f:Nat→Nat):(us:List SV)→Hc (V2 f us)=Hc us
  | []=>rfl
  | u :: r=>by simp only [V2,Hc,Rq f u,Fk f r]
end
theorem Eu (f:Nat→Nat):(us:List SV)→(vs:List Value)→Ws us vs→Ws (V2 f us) vs
  | [],_,_=>by simp [V2,Ws]
  | _ :: _,[],_=>by simp [V2,Ws]
  | u :: r,v :: s,h=>by
    simp only [Ws,V2] at h ⊢
    exact ⟨by rw [Rq]; exact h.1,h.2.1,Eu f r s h.2.2⟩
theorem ABg {f:Nat→Nat} {u:SV}:{us:List SV}→u∈V2 f us→∃ u',u'∈us∧u=J6 f u'
  | v :: r,h=>by
    simp only [V2,List.mem_cons] at h
    rcases h with rfl | h
    · exact ⟨v,by simp,rfl⟩
    · obtain ⟨u',h1,h2⟩:=ABg h
      exact ⟨u',by simp [h1],h2⟩
theorem Ec {f:Nat→Nat} {q:Z8} {g:Nat}:{ov:Ov}→((q,some g)∈Kj f ov↔∃ g',(q,some g')∈ov∧g=f g')
  | []=>by simp [Kj]
  | (q',some g') :: r=>by
    simp only [Kj,List.mem_cons,Ec (ov:=r),Prod.mk.injEq,Option.some.injEq]
    constructor
    · rintro (⟨rfl,rfl⟩ | ⟨g'',h1,h2⟩)
      · exact ⟨g',.inl ⟨rfl,rfl⟩,rfl⟩
      · exact ⟨g'',.inr h1,h2⟩
    · rintro ⟨g'',⟨rfl,rfl⟩ | h1,h2⟩
      · exact .inl ⟨rfl,h2⟩
      · exact .inr ⟨g'',h1,h2⟩
  | (q',none) :: r=>by simp [Kj,Ec (ov:=r)]
theorem Rz {f:Nat→Nat} {q:Z8}:{ov:Ov}→((∃ o,(q,o)∈Kj f ov)↔∃ o,(q,o)∈ov)
  | []=>by simp [Kj]
  | (q',some g') :: r=>by
    have:=Rz (f:=f) (q:=q) (ov:=r)
    simp only [Kj,List.mem_cons,Prod.mk.injEq,exists_or,this]
    constructor
    · rintro (⟨o,rfl,_⟩ | h)
      · exact .inl ⟨some g',rfl,rfl⟩
      · exact .inr h
    · rintro (⟨o,rfl,_⟩ | h)
      · exact .inl ⟨some (f g'),rfl,rfl⟩
      · exact .inr h
  | (q',none) :: r=>by
    have:=Rz (f:=f) (q:=q) (ov:=r)
    simp only [Kj,List.mem_cons,Prod.mk.injEq,exists_or,this]
theorem Rj (f:Nat→Nat) (p:Z8):(ov:Ov)→Jv p (Kj f ov)=Kj f (Jv p ov)
  | []=>rfl
  | (q,some g) :: r=>by
    simp only [Kj,Jv]
    cases H0 p q <;> simp [Kj,Rj f p r]
  | (q,none) :: r=>by
    simp only [Kj,Jv]
    cases H0 p q <;> simp [Kj,Rj f p r]
theorem Ej {p:Nat→Bool} {q:Z8} {g:Nat}:{ov:Ov}→G3 p ov=true→(q,some g)∈ov→p g=true
  | (q',some g') :: r,h,hm=>by
    simp only [G3,Bool.and_eq_true] at h
    simp only [List.mem_cons,Prod.mk.injEq,Option.some.injEq] at hm
    rcases hm with ⟨rfl,rfl⟩ | hm
    · exact h.1
    · exact Ej h.2 hm
  | (q',none) :: r,h,hm=>by
    simp only [G3] at h
    simp only [List.mem_cons,Prod.mk.injEq,reduceCtorEq,and_false,false_or] at hm
    exact Ej h hm
theorem Th {p:Nat→Bool} {q:Z8}:{ov:Ov}→G3 p ov=true→G3 p (Jv q ov)=true
  | [],_=>rfl
  | (q',some g') :: r,h=>by
    simp only [G3,Bool.and_eq_true] at h
    simp only [Jv]
    cases H0 q q'
    · exact Th h.2
    · simp only [G3,Bool.and_eq_true]; exact ⟨h.1,Th h.2⟩
  | (q',none) :: r,h=>by
    simp only [G3] at h
    simp only [Jv]
    cases H0 q q'
    · exact Th h
    · simp only [G3]; exact Th h
section names
variable {A:Nat→Prop} {ρ ρ':Xf} {w:World} {p:Nat→Bool} {f:Nat→Nat} 
mutual
theorem Zm.names (hf:∀ g s,p g=true→ρ g=some s→ρ' (f g)=some s):(τ:Ty)→{x:den τ}→{ov:Ov}→{cs:List Value}→G3 p ov=true→Zm A ρ w τ x ov cs→Zm A ρ' w τ x (Kj f ov) cs
  | .bool,_,_,_,_,h=>by simpa only [Zm] using h
  | .int _,_,_,_,_,h=>by simpa only [Zm] using h
  | .str,_,_,_,_,h=>by simpa only [Zm] using h
  | .sl e,_,ov,_,hp,h=>by
    simp only [Zm] at h ⊢
    obtain ⟨a,n,c,h1,h2,h3⟩:=h
    refine ⟨a,n,c,h1,fun g hg => ?_,fun hn => ?_⟩
    · obtain ⟨g',k1,rfl⟩:=Ec.1 hg
      obtain ⟨s,ad,m1,m2⟩:=h2 g' k1
      exact ⟨s,ad,hf _ _ (Ej hp k1) m1,m2⟩
    · have hn':∀ o,([],o) ∉ ov:=fun o ho=>by
        obtain ⟨o',ho'⟩:=Rz (f:=f).2 ⟨o,ho⟩
        exact hn o' ho'
      refine ⟨(h3 hn').1,(h3 hn').2.1,fun hpos => ?_⟩
      obtain ⟨b,o,ds,k1,k2,k3,k4,k5⟩:=(h3 hn').2.2 hpos
      exact ⟨b,o,ds,k1,k2,k3,k4,fun i hi=>by simpa only [Kj] using Zm.names hf e (ov:=[]) rfl (k5 i hi)⟩
  | .arr n e,_,ov,_,hp,h=>by
    simp only [Zm] at h ⊢
    exact ⟨h.1,h.2.1,fun i hi=>by rw [Rj]; exact Zm.names hf e (Th hp) (h.2.2 i hi)⟩
  | .st fs,_,_,_,hp,h=>by simp only [Zm] at h ⊢; exact Xs.names hf fs hp h
theorem Xs.names (hf:∀ g s,p g=true→ρ g=some s→ρ' (f g)=some s):(fs:List Ty)→{j:Nat}→{x:K7 fs}→{ov:Ov}→{cs:List Value}→G3 p ov=true→Xs A ρ w fs j x ov cs→Xs A ρ' w fs j x (Kj f ov) cs
  | [],_,_,_,_,_,h=>by simpa only [Xs] using h
  | t :: r,_,_,_,_,hp,h=>by
    simp only [Xs] at h ⊢
    exact ⟨by rw [Rj]; exact Zm.names hf t (Th hp) h.1,Xs.names hf r hp h.2⟩
end
mutual
theorem Zl.names (hf:∀ g s,p g=true→ρ g=some s→ρ' (f g)=some s):(u:SV)→{v:Value}→Up p u=true→Zl A ρ w u v→Zl A ρ' w (J6 f u) v
  | .dat τ x ov,_,hp,h=>by
    simp only [Zl,J6,Up] at h hp ⊢
    obtain ⟨cs,h1,h2⟩:=h
    exact ⟨cs,Zm.names hf τ hp h1,h2⟩
  | .ptr g q,_,hp,h=>by
    simp only [Zl,J6,Up] at h hp ⊢
    obtain ⟨s,h1,h2⟩:=h
    exact ⟨s,hf _ _ hp h1,h2⟩
  | .ref τ x,_,hp,h=>by
    simp only [Zl,J6,Up] at h hp ⊢
    obtain ⟨b,o,cs,h1,h2,h3,h4⟩:=h
    exact ⟨b,o,cs,h1,h2,h3,by simpa only [Kj] using Zm.names hf τ (ov:=[]) rfl h4⟩
  | .refv u,_,hp,h=>by
    simp only [Zl,J6,Up] at h hp ⊢
    obtain ⟨b,o,u',h1,h2,h3,h4⟩:=h
    exact ⟨b,o,u',h1,h2,h3,Zl.names hf u hp h4⟩
  | .selfc c us,_,hp,h=>by
    simp only [Zl,J6,Up] at h hp ⊢
    obtain ⟨b,o,h1,h2,vs,h3,h4⟩:=h
    exact ⟨b,o,h1,h2,vs,h3,Zs.names hf us hp h4⟩
  | .elp g i q,_,hp,h=>by
    simp only [Zl,J6,Up] at h hp ⊢
    obtain ⟨s,h1,h2⟩:=h
    exact ⟨s,hf _ _ hp h1,h2⟩
  | .clo c caps,_,hp,h=>by
    simp only [Zl,J6,Up] at h hp ⊢
    obtain ⟨vs,h1,h2⟩:=h
    exact ⟨vs,h1,Zs.names hf caps hp h2⟩
  | .tup us,_,hp,h=>by
    simp only [Zl,J6,Up] at h hp ⊢
    obtain ⟨vs,h1,h2⟩:=h
    exact ⟨vs,h1,Zs.names hf us hp h2⟩
  | .slv us,_,hp,h=>by
    simp only [Zl,J6,Up] at h hp ⊢
    obtain ⟨a,n,c,h1,h2,vs,h3,h5,⟨z,h6⟩,h4⟩:=h
    have:∀ l:List SV,(V2 f l).length=l.length:=fun l=>by induction l <;> simp_all [V2]
    refine ⟨a,n,c,h1,by rw [this]; exact h2,vs,Zs.names hf us hp h3,Eu f us vs h5,⟨z,fun u hu => ?_⟩,h4⟩
    obtain ⟨u',k1,rfl⟩:=ABg hu
    rw [Rq]; exact h6 u' k1
  | .fmap ks us,_,hp,h=>by
    simp only [Zl,J6,Up] at h hp ⊢
    obtain ⟨b,es,c,h1,h2,h3,h4,l,h5,h6,h7⟩:=h
    exact ⟨b,es,c,h1,h2,h3,h4,l,h5,h6,Zs.names hf us hp h7⟩
  | .agv us,_,hp,h=>by
    simp only [Zl,J6,Up] at h hp ⊢
    obtain ⟨vs,h1,h2,h3⟩:=h
    exact ⟨vs,h1,Zs.names hf us hp h2,Eu f us vs h3⟩
  | .nilfn,_,_,h=>by simpa only [Zl,J6] using h
  | .glo _,_,_,h=>by simpa only [Zl,J6] using h
  | .und,_,_,h=>by simpa only [Zl,J6] using h
  | .junk,_,_,_=>by simp only [Zl,J6]
theorem Zs.names (hf:∀ g s,p g=true→ρ g=some s→ρ' (f g)=some s):(us:List SV)→{vs:List Value}→Nc p us=true→Zs A ρ w us vs→Zs A ρ' w (V2 f us) vs
  | [],_,_,h=>by simpa only [Zs,V2] using h
  | u :: r,_,hp,h=>by
    simp only [Zs,V2,Nc,Bool.and_eq_true] at h hp ⊢
    obtain ⟨v,vs',h1,h2,h3⟩:=h
    exact ⟨v,vs',h1,Zl.names hf u hp.1 h2,Zs.names hf r hp.2 h3⟩
end
end names
theorem Fc:(ov:Ov)→Kj id ov=ov
  | []=>rfl
  | (_,some _) :: r=>by simp [Kj,Fc r]
  | (_,none) :: r=>by simp [Kj,Fc r]
mutual
theorem Fb:(u:SV)→J6 id u=u
  | .dat _ _ ov=>by simp [J6,Fc ov]
  | .ptr _ _=>rfl
  | .ref _ _=>rfl
  | .refv u=>by simp [J6,Fb u]
  | .selfc _ us=>by simp [J6,Tu us]
  | .glo _=>rfl
  | .elp _ _ _=>rfl
  | .clo _ us=>by simp [J6,Tu us]
  | .tup us=>by simp [J6,Tu us]
  | .slv us=>by simp [J6,Tu us]
  | .fmap _ us=>by simp [J6,Tu us]
  | .agv us=>by simp [J6,Tu us]
  | .nilfn=>rfl
  | .und=>rfl
  | .junk=>rfl
theorem Tu:(us:List SV)→V2 id us=us
  | []=>rfl
  | u :: r=>by simp [V2,Fb u,Tu r]
end
end Go.Proofs.YtjobjooccgledaaGreatDoor.Ghost
namespace Go.Proofs.YtjobjooccgledaaGreatDoor.Ghost
open Go
mutual
def Wp:SV→Z8→Nat
  | .agv vs,i :: p=>G2 vs i p
  | _,_=>0
def G2:List SV→Nat→Z8→Nat
  | [],_,_=>0
  | v :: _,0,p=>Wp v p
  | v :: r,n+1,p=>Jb v+G2 r n p
end
theorem U4:(us:List SV)→(vs:List Value)→{A:Nat→Prop}→{ρ:Xf}→{w:World}→Zs A ρ w us vs→Ws us vs→(Yr vs).length=Hc us
  | [],_,_,_,_,h,_=>by simp only [Zs] at h; subst h; rfl
  | u :: r,_,_,_,_,h,hs=>by
    simp only [Zs] at h
    obtain ⟨v,vs',rfl,_,h3⟩:=h
    simp only [Ws] at hs
    simp only [Yr,List.length_append,Hc,Array.length_toList,hs.1,U4 r vs' h3 hs.2.2]
theorem Zl.size {A:Nat→Prop} {ρ:Xf} {w:World}:{u:SV}→{v:Value}→u≠.junk→Zl A ρ w u v→v.cells.size=Jb u
  | .dat τ x ov,v,_,h=>by
    simp only [Zl] at h
    obtain ⟨cs,h1,rfl⟩:=h
    rw [← Array.length_toList,Ji h1,Zm.length τ h1]; rfl
  | .ptr g p,v,_,h=>by
    simp only [Zl] at h
    obtain ⟨s,_,_,rfl⟩:=h
    cases s.mp <;> rfl
  | .ref τ x,v,_,h=>by
    simp only [Zl] at h
    obtain ⟨_,_,_,rfl,_⟩:=h; rfl
  | .refv u,v,_,h=>by
    simp only [Zl] at h
    obtain ⟨_,_,_,rfl,_⟩:=h; rfl
  | .selfc f us,v,_,h=>by
    simp only [Zl] at h
    obtain ⟨_,_,rfl,_⟩:=h; rfl
  | .glo k,v,_,h=>by
    simp only [Zl] at h
    subst h; rfl
  | .elp g i p,v,_,h=>by
    simp only [Zl] at h
    obtain ⟨_,_,_,_,_,rfl⟩:=h; rfl
  | .clo f caps,v,_,h=>by
    simp only [Zl] at h
    obtain ⟨_,rfl,_⟩:=h; rfl
  | .tup us,v,_,h=>by
    simp only [Zl] at h
    obtain ⟨_,rfl,_⟩:=h; rfl
  | .slv us,v,_,h=>by
    simp only [Zl] at h
    obtain ⟨_,_,_,rfl,_⟩:=h; rfl
  | .fmap ks us,v,_,h=>by
    simp only [Zl] at h
    obtain ⟨_,_,_,rfl,_⟩:=h; rfl
  | .agv us,v,_,h=>by
    simp only [Zl] at h
    obtain ⟨vs,rfl,h2,h3⟩:=h
    show (Yr vs).toArray.size=_
    rw [List.size_toArray,U4 us vs h2 h3]; rfl
  | .nilfn,v,_,h=>by simp only [Zl] at h; subst h; rfl
  | .und,v,_,h=>by simp only [Zl] at h; subst h; rfl
  | .junk,_,h,_=>absurd rfl h
mutual
theorem Zm.one {A:Nat→Prop} {ρ:Xf} {w:World}:(τ:Ty)→{x:den τ}→{ov:Ov}→{cs:List Value}→Zm A ρ w τ x ov cs→∀ c∈cs,c.oneCell'=true
  | .bool,_,_,_,h=>by simp only [Zm] at h; subst h; simp [Value.oneCell']
  | .int _,_,_,_,h=>by simp only [Zm] at h; subst h; simp [Value.oneCell']
  | .str,_,_,_,h=>by simp only [Zm] at h; subst h; simp [Value.oneCell']
  | .sl _,_,_,_,h=>by simp only [Zm] at h; obtain ⟨_,_,_,rfl,_⟩:=h; simp [Value.oneCell']
  | .arr n e,_,_,cs,h=>by
    simp only [Zm] at h
    intro c hc
    obtain ⟨k,hk,rfl⟩:=List.getElem_of_mem hc
    have hk':k<n * Zj e:=by rw [← h.2.1]; exact hk
    have hpos:0<Zj e:=by
      rcases Nat.eq_zero_or_pos (Zj e) with h0 | h0
      · rw [h0] at hk'; simp at hk'
      · exact h0
    have hi:k / Zj e<n:=Nat.div_lt_of_lt_mul (by rw [Nat.mul_comm]; exact hk')
    refine Zm.one e (h.2.2 _ hi) _ ?_
    have hm:=Nat.div_add_mod k (Zj e)
    have hlt:=Nat.mod_lt k hpos
    rw [List.mem_iff_getElem?]
    refine ⟨k % Zj e,?_⟩
    rw [List.getElem?_take_of_lt hlt,List.getElem?_drop,Nat.mul_comm,hm,List.getElem?_eq_getElem hk]
  | .st fs,_,_,_,h=>by simp only [Zm] at h; exact Xs.one fs h
theorem Xs.one {A:Nat→Prop} {ρ:Xf} {w:World}:(fs:List Ty)→{j:Nat}→{x:K7 fs}→{ov:Ov}→{cs:List Value}→Xs A ρ w fs j x ov cs→∀ c∈cs,c.oneCell'=true
  | [],_,_,_,_,h=>by simp only [Xs] at h; subst h; simp
  | t :: r,_,_,_,cs,h=>by
    simp only [Xs] at h
    intro c hc
    rw [← List.take_append_drop (Zj t) cs,List.mem_append] at hc
    rcases hc with hc | hc
    · exact Zm.one t h.1 c hc
    · exact Xs.one r h.2 c hc
end
theorem B3:(us:List SV)→(vs:List Value)→us.length=vs.length→Ws us vs→∀ c∈Yr vs,c.oneCell'=true
  | [],[],_,_=>by simp [Yr]
  | u :: r,v :: s,hl,h=>by
    simp only [Ws] at h
    intro c hc
    simp only [Yr,List.mem_append] at hc
    rcases hc with hc | hc
    · exact h.2.1 c hc
    · exact B3 r s (by simpa using hl) h.2.2 c hc
theorem Zs.len {A:Nat→Prop} {ρ:Xf} {w:World}:(us:List SV)→{vs:List Value}→Zs A ρ w us vs→us.length=vs.length
  | [],_,h=>by simp only [Zs] at h; subst h; rfl
  | u :: r,_,h=>by
    simp only [Zs] at h
    obtain ⟨v,vs',rfl,_,h3⟩:=h
    simp [Zs.len r h3]
theorem Zl.one {A:Nat→Prop} {ρ:Xf} {w:World} {u:SV} {v:Value} {n:Nat} (hs:Hy n u=true) (h:Zl A ρ w u v):∀ c∈v.cells.toList,c.oneCell'=true:=by
  cases u with
  | dat τ x ov =>
    simp only [Zl] at h
    obtain ⟨cs,h1,rfl⟩:=h
    rw [Ji h1]
    exact Zm.one τ h1
  | ptr g p =>
    simp only [Zl] at h
    obtain ⟨s,_,_,rfl⟩:=h
    cases s.mp <;> simp [Value.cells,Value.oneCell']
  | ref τ x =>
    simp only [Zl] at h
    obtain ⟨_,_,_,rfl,_⟩:=h; simp [Value.cells,Value.oneCell']
  | refv u =>
    simp only [Zl] at h
    obtain ⟨_,_,_,rfl,_⟩:=h; simp [Value.cells,Value.oneCell']
  | selfc f us =>
    simp only [Zl] at h
    obtain ⟨_,_,rfl,_⟩:=h; simp [Value.cells,Value.oneCell']
  | glo k =>
    simp only [Zl] at h
    subst h; simp [Value.cells,Value.oneCell']
  | elp g i p =>
    simp only [Zl] at h
    obtain ⟨_,_,_,_,_,rfl⟩:=h; simp [Value.cells,Value.oneCell']
  | clo f caps =>
    simp only [Zl] at h
    obtain ⟨_,rfl,_⟩:=h; simp [Value.cells,Value.oneCell']
  | slv us =>
    simp only [Zl] at h
    obtain ⟨_,_,_,rfl,_⟩:=h; simp [Value.cells,Value.oneCell']
  | fmap ks us =>
    simp only [Zl] at h
    obtain ⟨_,_,_,rfl,_⟩:=h; simp [Value.cells,Value.oneCell']
  | agv us =>
    simp only [Zl] at h
    obtain ⟨vs,rfl,h2,h3⟩:=h
    exact B3 us vs (Zs.len us h2) h3
  | nilfn=>simp only [Zl] at h; subst h; simp [Value.cells,Value.oneCell']
  | und=>simp [Hy] at hs
  | tup us=>simp [Hy] at hs
  | junk=>simp [Hy] at hs
mutual
theorem Zl.getV {A:Nat→Prop} {ρ:Xf} {w:World}:(u:SV)→{p:Z8}→{v:Value}→{x:SV}→Zl A ρ w u v→Ghost.getV u p=some x →
    ∃ v',Zl A ρ w x v'∧v'.cells.toList=cut v.cells.toList (Wp u p) v'.cells.size
  | u,[],v,x,h,hg=>by
    have:u=x:=by cases u <;> simpa [Ghost.getV] using hg
    subst this
    refine ⟨v,h,?_⟩
    have:Wp u []=0:=by cases u <;> rfl
    rw [this,AH1]; simp
  | .agv us,i :: p,v,x,h,hg=>by
    simp only [Zl] at h
    obtain ⟨vs,rfl,h2,h3⟩:=h
    simp only [Ghost.getV] at hg
    obtain ⟨v',k1,k2⟩:=Zs.getV us h2 h3 hg
    exact ⟨v',k1,by simpa only [Wp,Value.cells] using k2⟩
  | .dat _ _ _,_ :: _,_,_,_,hg=>by simp [Ghost.getV] at hg
  | .ptr _ _,_ :: _,_,_,_,hg=>by simp [Ghost.getV] at hg
  | .ref _ _,_ :: _,_,_,_,hg=>by simp [Ghost.getV] at hg
  | .refv _,_ :: _,_,_,_,hg=>by simp [Ghost.getV] at hg
  | .selfc _ _,_ :: _,_,_,_,hg=>by simp [Ghost.getV] at hg
  | .glo _,_ :: _,_,_,_,hg=>by simp [Ghost.getV] at hg
  | .elp _ _ _,_ :: _,_,_,_,hg=>by simp [Ghost.getV] at hg
  | .clo _ _,_ :: _,_,_,_,hg=>by simp [Ghost.getV] at hg
  | .tup _,_ :: _,_,_,_,hg=>by simp [Ghost.getV] at hg
  | .slv _,_ :: _,_,_,_,hg=>by simp [Ghost.getV] at hg
  | .fmap _ _,_ :: _,_,_,_,hg=>by simp [Ghost.getV] at hg
  | .nilfn,_ :: _,_,_,_,hg=>by simp [Ghost.getV] at hg
  | .und,_ :: _,_,_,_,hg=>by simp [Ghost.getV] at hg
  | .junk,_ :: _,_,_,_,hg=>by simp [Ghost.getV] at hg
theorem Zs.getV {A:Nat→Prop} {ρ:Xf} {w:World}:(us:List SV)→{i:Nat}→{p:Z8}→{vs:List Value}→{x:SV}→Zs A ρ w us vs→Ws us vs→getV.getVL us i p=some x →
    ∃ v',Zl A ρ w x v'∧v'.cells.toList=cut (Yr vs) (G2 us i p) v'.cells.size
  | [],_,_,_,_,_,_,hg=>by simp [getV.getVL] at hg
  | u :: r,0,p,vs,x,h,hs,hg=>by
    simp only [Zs] at h
    obtain ⟨v,vs',rfl,h2,h3⟩:=h
    simp only [getV.getVL] at hg
    obtain ⟨v',k1,k2⟩:=Zl.getV u h2 hg
    refine ⟨v',k1,?_⟩
    rw [k2]
    simp only [G2,Yr]
    refine List.ext_getElem? fun k => ?_
    have hl:v'.cells.size≤v.cells.size - Wp u p∨True:=.inr trivial
    have k3:(cut v.cells.toList (Wp u p) v'.cells.size).length=v'.cells.size:=by rw [← k2]; simp
    have k4:v'.cells.size=min v'.cells.size (v.cells.size - Wp u p):=by
      unfold cut at k3
      simp only [List.length_take,List.length_drop,Array.length_toList] at k3
      omega
    rw [Qx,Qx]
    by_cases hk:k<v'.cells.size
    · simp only [hk,if_true]
      rw [List.getElem?_append_left (by simp only [Array.length_toList]; omega)]
    · simp only [hk,if_false]
  | u :: r,n+1,p,vs,x,h,hs,hg=>by
    simp only [Zs] at h
    obtain ⟨v,vs',rfl,h2,h3⟩:=h
    simp only [Ws] at hs
    simp only [getV.getVL] at hg
    obtain ⟨v',k1,k2⟩:=Zs.getV r h3 hs.2.2 hg
    refine ⟨v',k1,?_⟩
    rw [k2]
    simp only [G2,Yr]
    unfold cut
    have hz:List.drop v.cells.size v.cells.toList=[]:=List.drop_eq_nil_of_le (by simp)
    rw [← hs.1,← List.drop_drop,List.drop_append_of_le_length (by simp),hz,List.nil_append]
end
def Xv (A:Nat→Prop) (ρ:Xf) (w:World) (κ ν:Ty):List (den κ×den ν)→List MapEntry→Prop
  | [],es=>es=[]
  | (k,v) :: r,es=>∃ e es',es=e :: es'∧(∃ cs,Zm A ρ w κ k [] cs∧e.key=mkV κ cs)∧(∃ cs,Zm A ρ w ν v [] cs∧e.val=mkV ν cs)∧Xv A ρ w κ ν r es'
def AB0 (es:List MapEntry) (c:Nat):Prop:=c=es.length∧∀ (j:Nat) e,es[j]?=some e→e.born=j
def Own (own:Nat→Option Nat) (w:World) (g:Nat) (s:K1) (cs:List Value):Prop :=
  own s.b=some g∧w.rangeAt s.b 0 cs∧w.there s.b 0 cs.length
def ADq (A:Nat→Prop) (w:World) (s:K1) (cs:List Value):Prop:=A s.b∧w.rangeAt s.b 0 cs
def Tk (A:Nat→Prop) (ρ:Xf) (w:World) (g:Nat) (τ:Ty) (x:den τ) (ov:Ov) (M:K1→List Value→Prop):Prop :=
  ∃ s cs,ρ g=some s∧s.mp=false∧s.off=Jd τ∧s.ok=okP τ∧M s cs∧Zm A ρ w τ x ov cs
def okV (u:SV) (p:Z8):Prop:=∃ x,getV u p=some x
def Uy (A:Nat→Prop) (ρ:Xf) (w:World) (g:Nat) (u:SV) (M:K1→List Value→Prop):Prop :=
  ∃ s v,ρ g=some s∧s.mp=false∧s.off=Wp u∧s.ok=okV u∧u≠.junk∧M s (Value.cells v).toList∧Zl A ρ w u v
def V4 (A:Nat→Prop) (ρ:Xf) (w:World) (g:Nat) (e:Ty) (l:List (den e)) (M:K1→List Value→Prop):Prop :=
  ∃ s,ρ g=some s∧s.mp=false∧s.es=Zj e∧0<Zj e∧s.off=Jd e∧s.ok=okP e∧List.length l=s.len∧s.len≤s.cap ∧
    (0<s.cap→∃ cs,cs.length=s.cap * s.es∧M s cs∧∀ i,i<s.len→Zm A ρ w e (List.getD l i (dft e)) [] (cut cs (i * s.es) s.es))
def Vn (A:Nat→Prop) (ρ:Xf) (own:Nat→Option Nat) (w:World) (g:Nat):Obj→Prop
  | .box τ x ov=>Tk A ρ w g τ x ov (Own own w g)
  | .boxv u=>Uy A ρ w g u (Own own w g)
  | .fbox τ x ov=>Tk A ρ w g τ x ov (ADq A w)
  | .fboxv u=>Uy A ρ w g u (ADq A w)
  | .arr e l=>V4 A ρ w g e l (Own own w g)
  | .frz e l=>V4 A ρ w g e l (ADq A w)
  | .map κ ν l=>∃ s es c,ρ g=some s∧s.mp=true∧own s.b=some g∧(∀ p,s.ok p↔p=[])∧w.heap[s.b]?=some (.map es c)∧Xv A ρ w κ ν l es.toList∧AB0 es.toList c
  | .hid=>True
  | .dead=>True
  | .none=>ρ g=none
theorem Xv.mono {A A':Nat→Prop} {ρ ρ':Xf} {w w':World} (hA:∀ b,A b→A' b) (hρ:∀ g s,ρ g=some s→ρ' g=some s)
    (hw:∀ b,A b→w'.heap[b]?=w.heap[b]?) {κ ν:Ty}:{l:List (den κ×den ν)}→{es:List MapEntry}→Xv A ρ w κ ν l es→Xv A' ρ' w' κ ν l es
  | [],_,h=>by simpa only [Xv] using h
  | (k,v) :: r,_,h=>by
    simp only [Xv] at h ⊢
    obtain ⟨e,es',h1,⟨c1,h2,h3⟩,⟨c2,h4,h5⟩,h6⟩:=h
    exact ⟨e,es',h1,⟨c1,Zm.mono hA hρ hw κ h2,h3⟩,⟨c2,Zm.mono hA hρ hw ν h4,h5⟩,Xv.mono hA hρ hw h6⟩
theorem Vn.mono {A A':Nat→Prop} {ρ ρ':Xf} {own own':Nat→Option Nat} {w w':World} {g:Nat} (hA:∀ b,A b→A' b) (hρ:∀ g s,ρ g=some s→ρ' g=some s)
    (hw:∀ b,A b∨own b=some g→w'.heap[b]?=w.heap[b]?) (ho:∀ b,own b=some g→own' b=some g) (hn:ρ g=none→ρ' g=none):{o:Obj}→Vn A ρ own w g o→Vn A' ρ' own' w' g o
  | .box τ x ov,h=>by
    simp only [Vn,Tk] at h ⊢
    obtain ⟨s,cs,h1,h2,h3,h4,⟨m1,m2,m3⟩,h5⟩:=h
    exact ⟨s,cs,hρ _ _ h1,h2,h3,h4,⟨ho _ m1,Ya (hw _ (.inr m1)) m2,K4 (hw _ (.inr m1)) m3⟩,Zm.mono hA hρ (fun b hb=>hw b (.inl hb)) τ h5⟩
  | .boxv u,h=>by
    simp only [Vn,Uy] at h ⊢
    obtain ⟨s,cs,h1,h2,h3,h4,h6,⟨m1,m2,m3⟩,h5⟩:=h
    exact ⟨s,cs,hρ _ _ h1,h2,h3,h4,h6,⟨ho _ m1,Ya (hw _ (.inr m1)) m2,K4 (hw _ (.inr m1)) m3⟩,Zl.mono hA hρ (fun b hb=>hw b (.inl hb)) u h5⟩
  | .fbox τ x ov,h=>by
    simp only [Vn,Tk] at h ⊢
    obtain ⟨s,cs,h1,h2,h3,h4,⟨m1,m2⟩,h5⟩:=h
    exact ⟨s,cs,hρ _ _ h1,h2,h3,h4,⟨hA _ m1,Ya (hw _ (.inl m1)) m2⟩,Zm.mono hA hρ (fun b hb=>hw b (.inl hb)) τ h5⟩
  | .fboxv u,h=>by
    simp only [Vn,Uy] at h ⊢
    obtain ⟨s,cs,h1,h2,h3,h4,h6,⟨m1,m2⟩,h5⟩:=h
    exact ⟨s,cs,hρ _ _ h1,h2,h3,h4,h6,⟨hA _ m1,Ya (hw _ (.inl m1)) m2⟩,Zl.mono hA hρ (fun b hb=>hw b (.inl hb)) u h5⟩
  | .arr e l,h=>by
    simp only [Vn,V4] at h ⊢
    obtain ⟨s,h1,h2,h3,h4,h5,h6,h7,h8,h9⟩:=h
    refine ⟨s,hρ _ _ h1,h2,h3,h4,h5,h6,h7,h8,fun hc => ?_⟩
    obtain ⟨cs,k1,⟨m1,m2,m3⟩,k2⟩:=h9 hc
    exact ⟨cs,k1,⟨ho _ m1,Ya (hw _ (.inr m1)) m2,K4 (hw _ (.inr m1)) m3⟩,fun i hi=>Zm.mono hA hρ (fun b hb=>hw b (.inl hb)) e (k2 i hi)⟩
  | .frz e l,h=>by
    simp only [Vn,V4] at h ⊢
    obtain ⟨s,h1,h2,h3,h4,h5,h6,h7,h8,h9⟩:=h
    refine ⟨s,hρ _ _ h1,h2,h3,h4,h5,h6,h7,h8,fun hc => ?_⟩
    obtain ⟨cs,k1,⟨m1,m2⟩,k2⟩:=h9 hc
    exact ⟨cs,k1,⟨hA _ m1,Ya (hw _ (.inl m1)) m2⟩,fun i hi=>Zm.mono hA hρ (fun b hb=>hw b (.inl hb)) e (k2 i hi)⟩
  | .map κ ν l,h=>by
    simp only [Vn] at h ⊢
    obtain ⟨s,es,c,h1,h2,h3,h4,h5,h6,h7⟩:=h
    exact ⟨s,es,c,hρ _ _ h1,h2,ho _ h3,h4,by rw [hw _ (.inr h3)]; exact h5,Xv.mono hA hρ (fun b hb=>hw b (.inl hb)) h6,h7⟩
  | .hid,_=>trivial
  | .dead,_=>trivial
  | .none,h=>hn h
def Yq (A:Nat→Prop) (w:World):Prop:=(∀ k d,AEt k=some d→A k∧∃ cs,Zm A (fun _=>none) w d.τ d.x [] cs∧w.rangeAt k 0 cs) ∧
  ∀ k p,AGu k=some p→A k∧∃ v,Zl A (fun _=>none) w (.fmap p.1 (p.2.map fun f=>.clo f [])) v∧w.rangeAt k 0 [v]
theorem Yq.mono {A A':Nat→Prop} {w w':World} (hA:∀ b,A b→A' b) (hw:∀ b,A b→w'.heap[b]?=w.heap[b]?) (h:Yq A w):Yq A' w':=⟨fun k d hd=>by
  obtain ⟨h1,cs,h2,h3⟩:=h.1 k d hd
  exact ⟨hA k h1,cs,Zm.mono hA (fun _ _ h=>h) hw d.τ h2,Ya (hw k h1) h3⟩,fun k p hp=>by
  obtain ⟨h1,v,h2,h3⟩:=h.2 k p hp
  exact ⟨hA k h1,v,Zl.mono hA (fun _ _ h=>h) hw _ h2,Ya (hw k h1) h3⟩⟩
structure Y6 where
  w:World
  A:Nat→Prop
structure St (B:Nat) (w0:Y6) (A:Nat→Prop) (ρ:Xf) (own:Nat→Option Nat) (w:World) (h:Nat→Obj):Prop where
  objs:∀ g,Vn A ρ own w g (h g)
  apart:∀ b g,own b=some g→¬ A b
  old:∀ b,A b→b<w.heap.size
  oldO:∀ b g,own b=some g→b<w.heap.size
  base:∀ b g,own b=some g→B≤b
  below:RowKit.Below B w0.w w
  hB:B≤w0.w.heap.size
  imm:∀ b,A b→w0.A b∨B≤b
  names:∀ g,(∃ s,ρ g=some s)→h g≠.none
  glob:Yq A w
structure X9 (A:Nat→Prop) (ρ:Xf) (w:World) (A':Nat→Prop) (ρ':Xf) (w':World):Prop where
  hA:∀ b,A b→A' b
  hρ:∀ g s,ρ g=some s→ρ' g=some s
  hw:∀ b,A b→w'.heap[b]?=w.heap[b]?
theorem X9.refl (A:Nat→Prop) (ρ:Xf) (w:World):X9 A ρ w A ρ w:=⟨fun _ h=>h,fun _ _ h=>h,fun _ _=>rfl⟩
theorem X9.trans {A A' A'':Nat→Prop} {ρ ρ' ρ'':Xf} {w w' w'':World} (h:X9 A ρ w A' ρ' w') (k:X9 A' ρ' w' A'' ρ'' w''):X9 A ρ w A'' ρ'' w'' :=
  ⟨fun b hb=>k.hA b (h.hA b hb),fun g s hs=>k.hρ g s (h.hρ g s hs),fun b hb=>(k.hw b (h.hA b hb)).trans (h.hw b hb)⟩
theorem X9.repV {A A':Nat→Prop} {ρ ρ':Xf} {w w':World} (h:X9 A ρ w A' ρ' w') {u:SV} {v:Value} (hv:Zl A ρ w u v):Zl A' ρ' w' u v :=
  Zl.mono h.hA h.hρ h.hw u hv
theorem X9.repC {A A':Nat→Prop} {ρ ρ':Xf} {w w':World} (h:X9 A ρ w A' ρ' w') {τ:Ty} {x:den τ} {ov:Ov} {cs:List Value} (hv:Zm A ρ w τ x ov cs):Zm A' ρ' w' τ x ov cs :=
  Zm.mono h.hA h.hρ h.hw τ hv
theorem St.turn {B:Nat} {w0:Y6} {A A':Nat→Prop} {ρ ρ':Xf} {own own':Nat→Option Nat} {w w':World} {h h':Nat→Obj} (st:St B w0 A ρ own w h) (G:Nat→Prop)
    (hl:X9 A ρ w A' ρ' w') (hw:∀ b g,own b=some g→¬ G g→w'.heap[b]?=w.heap[b]?) (ho:∀ b g,own b=some g→¬ G g→own' b=some g)
    (hn:∀ g,¬ G g→ρ g=none→ρ' g=none) (hh:∀ g,¬ G g→h' g=h g) (hG:∀ g,G g→Vn A' ρ' own' w' g (h' g)) (hGn:∀ g,G g→h' g≠.none)
    (hap:∀ b g,own' b=some g→¬ A' b) (hold:∀ b,A' b→b<w'.heap.size) (holdO:∀ b g,own' b=some g→b<w'.heap.size) (hbase:∀ b g,own' b=some g→B≤b)
    (hbelow:RowKit.Below B w w') (himm:∀ b,A' b→A b∨B≤b):St B w0 A' ρ' own' w' h' where
  glob:=st.glob.mono hl.hA hl.hw
  objs g:=by
    by_cases hg:G g
    · exact hG g hg
    · rw [hh g hg]
      refine Vn.mono hl.hA hl.hρ (fun b hb => ?_) (fun b hb=>ho b g hb hg) (hn g hg) (st.objs g)
      rcases hb with hb | hb
      · exact hl.hw b hb
      · exact hw b g hb hg
  apart:=hap
  old:=hold
  oldO:=holdO
  base:=hbase
  below:=st.below.trans hbelow
  hB:=st.hB
  imm b hb:=(himm b hb).elim (st.imm b) .inr
  names g hg:=by
    by_cases hg':G g
    · exact hGn g hg'
    · rw [hh g hg']
      refine st.names g ?_
      cases hr:ρ g with
      | none=>obtain ⟨s,hs⟩:=hg; rw [hn g hg' hr] at hs; cases hs
      | some s=>exact ⟨s,rfl⟩
end Go.Proofs.YtjobjooccgledaaGreatDoor.Ghost
namespace Go.Proofs.YtjobjooccgledaaGreatDoor.Ghost
open Go
mutual
def zeroCells:Ty→List Value
  | .bool=>[.bool false]
  | .int k=>[.int k 0]
  | .str=>[.string ⟨#[]⟩]
  | .sl _=>[.slice none 0 0]
  | .arr n e=>Dw n (zeroCells e)
  | .st fs=>H1 fs
def H1:List Ty→List Value
  | []=>[]
  | t :: r=>zeroCells t ++ H1 r
def Dw:Nat→List Value→List Value
  | 0,_=>[]
  | n+1,l=>l ++ Dw n l
end
def AGh:Value→Value→Bool
  | .bool a,.bool b=>a == b
  | .int k a,.int k' b=>decide (k=k') && decide (a=b)
  | .string a,.string b=>Nat.beq a.data.size 0 && Nat.beq b.data.size 0
  | .slice none 0 0,.slice none 0 0=>true
  | .nilFunc,.nilFunc=>true
  | _,_=>false
def E0:List Value→List Value→Bool
  | [],[]=>true
  | a :: r,b :: s=>AGh a b && E0 r s
  | _,_=>false
theorem AOh:{a b:Value}→AGh a b=true→a=b
  | .bool a,.bool b,h=>by simp [AGh] at h; rw [h]
  | .int k a,.int k' b,h=>by simp [AGh] at h; rw [h.1,h.2]
  | .string a,.string b,h=>by
    simp only [AGh,Bool.and_eq_true] at h
    have h1:=Nat.eq_of_beq_eq_true h.1
    have h2:=Nat.eq_of_beq_eq_true h.2
    obtain ⟨⟨l⟩⟩:=a
    obtain ⟨⟨m⟩⟩:=b
    simp at h1 h2
    subst h1; subst h2; rfl
  | .slice none 0 0,.slice none 0 0,_=>rfl
  | .nilFunc,.nilFunc,_=>rfl
theorem M2:{a b:List Value}→E0 a b=true→a=b
  | [],[],_=>rfl
  | a :: r,b :: s,h=>by
    simp only [E0,Bool.and_eq_true] at h
    rw [AOh h.1,M2 h.2]
def Jr (P:Program) (t:TypeId) (n:Nat):Bool:=match P.info? t with
  | some i=>Nat.beq i.size n
  | none=>false
mutual
def Xx (P:Program):Ty→TypeId→Bool
  | .bool,t=>(match P.underlying t with | some .bool=>true | _=>false)
  | .int k,t=>(match P.underlying t with | some (.int k')=>decide (k=k') | _=>false)
  | .str,t=>(match P.underlying t with | some .string=>true | _=>false)
  | .sl e,t=>(match P.underlying t with | some (.slice e')=>Xx P e e' && Jr P e' (Zj e) && Nat.blt 0 (Zj e) | _=>false)
  | .arr n e,t=>(match P.underlying t with | some (.array n' e')=>Nat.beq n' n && Xx P e e' && Jr P e' (Zj e) && Nat.blt 0 (Zj e) | _=>false)
  | .st fs,t=>(match P.underlying t with | some (.struct l)=>Q5 P fs 0 l.toList | _=>false)
def Q5 (P:Program):List Ty→Nat→List Field→Bool
  | [],_,[]=>true
  | t :: r,o,f :: s=>Nat.beq f.offset o && Jr P f.type (Zj t) && Nat.blt 0 (Zj t) && Xx P t f.type && Q5 P r (o+Zj t) s
  | _,_,_=>false
end
def L8 (P:Program) (τ:Ty) (t:TypeId):Bool:=match P.info? t with
  | some i=>(match i.zero with | some (.agg cs)=>Ua τ && E0 cs.toList (zeroCells τ) | some v => !(Ua τ) && E0 [v] (zeroCells τ) | none=>false)
  | none=>false
theorem G8 {P:Program} {t:TypeId} {n:Nat} (h:Jr P t n=true):∃ i,P.info? t=some i∧i.size=n:=by
  unfold Jr at h
  split at h
  · rename_i i hi; exact ⟨i,hi,Nat.eq_of_beq_eq_true h⟩
  · cases h
theorem AHm {P:Program} {t:TypeId} {n:Nat} (h:Jr P t n=true):(P.info? t).map (·.size)=some n:=by
  obtain ⟨i,h1,h2⟩:=G8 h
  rw [h1]; simp [h2]
theorem J7 {P:Program} {t:TypeId} {n:Nat} (h:Jr P t n=true) (w:World):(sizeOf t).run P w=.ok n w:=by
  obtain ⟨i,h1,h2⟩:=G8 h
  simp [sizeOf,typeInfo,h1,h2]
theorem Gl {P:Program} {t:TypeId} {i:TypeInfo} (h:P.info? t=some i) (w:World):(typeInfo t).run P w=.ok i w:=by
  simp [typeInfo,h]
theorem E9 {P:Program}:{τ:Ty}→{t:TypeId}→Xx P τ t=true→∃ d,P.underlying t=some d∧d.isRow=Ua τ
  | .bool,_,h=>by simp only [Xx] at h; split at h <;> simp_all [Ua,TypeDesc.isRow]
  | .int k,_,h=>by simp only [Xx] at h; split at h <;> simp_all [Ua,TypeDesc.isRow]
  | .str,_,h=>by simp only [Xx] at h; split at h <;> simp_all [Ua,TypeDesc.isRow]
  | .sl e,_,h=>by simp only [Xx] at h; split at h <;> simp_all [Ua,TypeDesc.isRow]
  | .arr n e,_,h=>by simp only [Xx] at h; split at h <;> simp_all [Ua,TypeDesc.isRow]
  | .st fs,_,h=>by simp only [Xx] at h; split at h <;> simp_all [Ua,TypeDesc.isRow]
theorem Ah {P:Program} {t:TypeId} {d:TypeDesc} (h:P.underlying t=some d) (w:World):(isAgg t).run P w=.ok d.isRow w:=by
  unfold isAgg
  rw [Sem.run_bind,run_underlying h w]
  cases d <;> rfl
theorem Wl {P:Program} {τ:Ty} {t:TypeId} (h:L8 P τ t=true) (w:World):(zeroValue t).run P w=.ok (mkV τ (zeroCells τ)) w:=by
  unfold L8 at h
  cases hi:P.info? t with
  | none=>rw [hi] at h; cases h
  | some i =>
    simp only [hi] at h
    simp only [zeroValue,Sem.run_bind,Gl hi,Result.andThen_ok]
    cases hz:i.zero with
    | none=>simp [hz] at h
    | some v =>
      simp only [hz] at h
      have key:v=mkV τ (zeroCells τ):=by
        cases v with
        | agg cs =>
          simp only [Bool.and_eq_true] at h
          have:=M2 h.2
          unfold mkV
          rw [h.1,← this]
        | _ =>
          simp only [Bool.and_eq_true,Bool.not_eq_true'] at h
          have:=M2 h.2
          unfold mkV
          rw [h.1,← this]; rfl
      subst key
      rfl
theorem AFe (n:Nat) (l:List Value):(Dw n l).length=n * l.length:=by
  induction n with
  | zero=>simp [Dw]
  | succ n ih=>simp only [Dw,List.length_append,ih,Nat.add_mul,Nat.one_mul]; omega
theorem AEb (l:List Value):(n i:Nat)→i<n→cut (Dw n l) (i * l.length) l.length=l
  | 0,_,h=>by omega
  | n+1,0,_=>by simp [cut,Dw]
  | n+1,i+1,h=>by
    have:=AEb l n i (by omega)
    unfold cut at this ⊢
    rw [show (i+1) * l.length=l.length+i * l.length by rw [Nat.add_mul]; omega]
    simp only [Dw]
    rw [← List.drop_drop,List.drop_append_of_le_length (by omega),List.drop_length,List.nil_append]
    exact this
theorem Nu {α:Type} {n i:Nat} {x d:α} (h:i<n):(List.replicate n x).getD i d=x:=by
  rw [List.getD_eq_getElem?_getD,List.getElem?_replicate,if_pos h]; rfl
mutual
theorem Zm.zero (A:Nat→Prop) (ρ:Xf) (w:World):(τ:Ty)→Zm A ρ w τ (dft τ) [] (zeroCells τ)
  | .bool=>by simp only [Zm,dft,zeroCells]
  | .int k=>by simp only [Zm,dft,zeroCells]
  | .str=>by simp only [Zm,dft,zeroCells]
  | .sl e=>by
    simp only [Zm,zeroCells]
    exact ⟨none,0,0,rfl,by simp,fun _=>⟨rfl,by simp⟩⟩
  | .arr n e=>by
    have he:=Zm.zero A ρ w e
    have hl:=Zm.length e he
    simp only [Zm,zeroCells]
    refine ⟨by simp [dft],by rw [AFe,hl],fun i hi => ?_⟩
    have hc:=AEb (zeroCells e) n i hi
    rw [hl] at hc
    simp only [dft]
    change Zm A ρ w e _ _ (cut (Dw n (zeroCells e)) (i * Zj e) (Zj e))
    rw [Nu hi,hc]
    exact he
  | .st fs=>by simp only [Zm,zeroCells]; exact Xs.zero A ρ w fs 0
theorem Xs.zero (A:Nat→Prop) (ρ:Xf) (w:World):(fs:List Ty)→(j:Nat)→Xs A ρ w fs j (BG9 fs) [] (H1 fs)
  | [],_=>by simp only [Xs,H1]
  | t :: r,j=>by
    have ht:=Zm.zero A ρ w t
    have hl:=Zm.length t ht
    simp only [Xs,H1]
    exact ⟨by rw [← hl,List.take_left]; exact ht,by rw [← hl,List.drop_left]; exact Xs.zero A ρ w r (j+1)⟩
end
def Mk:(τ:Ty)→den τ→Value→Bool
  | .bool,x,.bool b=>x == b
  | .int k,x,.int k' n=>decide (k=k') && decide (x=n)
  | .str,x,.string s=>decide (x.data.toList=s.data.toList)
  | .sl _,x,.slice _ 0 _=>List.isEmpty x
  | _,_,_=>false
def Xp:Opd→Operand→Bool
  | .t i,.tmp j=>Nat.beq i j
  | .g k,.global g=>Nat.beq k g
  | .c τ x,.const v=>Mk τ x v
  | .f f,.func g=>Nat.beq f g
  | .nf,.const .nilFunc=>true
  | _,_=>false
def Jt:List Opd→List Operand→Bool
  | [],[]=>true
  | x :: r,y :: s=>Xp x y && Jt r s
  | _,_=>false
def Xh (A:Nat→Prop) (ρ:Xf) (w:World) (s:Nat→SV) (a:Act):Prop:=∀ i,Zl A ρ w (s i) (a.eval (.tmp i))
theorem AD9 {A:Nat→Prop} {ρ:Xf} {w:World}:(τ:Ty)→(x:den τ)→(v:Value)→Mk τ x v=true→Zl A ρ w (.dat τ x []) v
  | .bool,x,.bool b,h=>by simp only [Mk,beq_iff_eq] at h; subst h; simp only [Zl,Zm]; exact ⟨_,rfl,rfl⟩
  | .int k,x,.int k' n,h=>by
    simp only [Mk,Bool.and_eq_true,decide_eq_true_eq] at h
    obtain ⟨rfl,rfl⟩:=h
    simp only [Zl,Zm]; exact ⟨_,rfl,rfl⟩
  | .str,x,.string s,h=>by
    simp only [Mk,decide_eq_true_eq] at h
    have:x=s:=by
      obtain ⟨⟨l⟩⟩:=x
      obtain ⟨⟨m⟩⟩:=s
      simpa using h
    subst this
    simp only [Zl,Zm]; exact ⟨_,rfl,rfl⟩
  | .sl e,x,.slice a 0 c,h=>by
    simp only [Mk,List.isEmpty_iff] at h
    subst h
    simp only [Zl,Zm]
    exact ⟨[.slice a 0 c],⟨a,0,c,rfl,by simp,fun _=>⟨rfl,by simp⟩⟩,rfl⟩
theorem X4 {A:Nat→Prop} {ρ:Xf} {w:World} {s:Nat→SV} {a:Act} (hs:Xh A ρ w s a):{x:Opd}→{y:Operand}→Xp x y=true→Zl A ρ w (evO s x) (a.eval y)
  | .t i,.tmp j,h=>by
    have:=Nat.eq_of_beq_eq_true (by simpa only [Xp] using h)
    subst this
    exact hs i
  | .c τ x,.const v,h=>AD9 τ x v h
  | .f f,.func g,h=>by
    have:=Nat.eq_of_beq_eq_true (by simpa only [Xp] using h)
    subst this
    simp only [evO,Zl]
    exact ⟨[],rfl,by simp only [Zs]⟩
  | .nf,.const .nilFunc,_=>by simp only [evO,Zl]; rfl
  | .g k,.global g,h=>by
    have:=Nat.eq_of_beq_eq_true (by simpa only [Xp] using h)
    subst this
    simp only [evO,Zl]; rfl
theorem Rl {A:Nat→Prop} {ρ:Xf} {w:World} {s:Nat→SV} {a:Act} (hs:Xh A ρ w s a):{xs:List Opd}→{ys:List Operand}→Jt xs ys=true→Zs A ρ w (xs.map (evO s)) (ys.map a.eval)
  | [],[],_=>by simp only [List.map_nil,Zs]
  | x :: r,y :: t,h=>by
    simp only [Jt,Bool.and_eq_true] at h
    simp only [List.map_cons,Zs]
    exact ⟨_,_,rfl,X4 hs h.1,Rl hs h.2⟩
end Go.Proofs.YtjobjooccgledaaGreatDoor.Ghost
namespace Go.Proofs.YtjobjooccgledaaGreatDoor.Ghost
open Go
def X7 (h:Nat→Obj):Eff→Nat→Obj
  | []=>h
  | (g,o) :: r=>X7 (fun i=>if i=g then o else h i) r
theorem Tb:(h:Yj)→(g i:Nat)→(o:Obj)→Xn (R7 h g o) i=if i=g then o else Xn h i
  | [],0,0,o=>by simp [R7,Xn]
  | [],0,i+1,o=>by simp [R7,Xn]
  | [],g+1,0,o=>by simp [R7,Xn]
  | [],g+1,i+1,o=>by
    have:=Tb [] g i o
    simp only [R7,Xn,this,Nat.add_right_cancel_iff]
  | x :: r,0,0,o=>by simp [R7,Xn]
  | x :: r,0,i+1,o=>by simp [R7,Xn]
  | x :: r,g+1,0,o=>by simp [R7,Xn]
  | x :: r,g+1,i+1,o=>by
    have:=Tb r g i o
    simp only [R7,Xn,this,Nat.add_right_cancel_iff]
theorem Gz (h:Yj):(e:Eff)→Xn (P2 h e)=X7 (Xn h) e
  | []=>rfl
  | (g,o) :: r=>by
    have h1:=Gz (R7 h g o) r
    simp only [P2,X7,h1]
    congr 1
    funext i
    rw [Tb]
def Zw (P:Program) (o:Oper) (a:Act) (w:World) (B:Nat) (w0:Y6) (A:Nat→Prop) (ρ:Xf) (v:SV) (h':Nat→Obj):Prop :=
  ∀ (next:Act→World→Prop) (Q:Exit→Act→World→Prop),
    (∀ v' w' A' ρ' own',St B w0 A' ρ' own' w' h'→X9 A ρ w A' ρ' w'→Zl A' ρ' w' v v'→next (a.put o.dst v') w')→o.wp P a w next Q
section
variable {P:Program} {o:Oper} {a:Act} {w:World} {B:Nat} {w0:Y6} {A:Nat→Prop} {ρ:Xf} {own:Nat→Option Nat} {h:Nat→Obj} {s:Nat→SV}
theorem Zw.pure {v:SV} {v':Value} (st:St B w0 A ρ own w h) (he:(execOp a.eval o).run P w=.ok (.value v') w) (hv:Zl A ρ w v v') :
    Zw P o a w B w0 A ρ v h:=fun next Q K=>by
  unfold Oper.wp; rw [he]; exact K v' w A ρ own st (X9.refl ..) hv
theorem Zw.value {v:SV} {v':Value} {w':World} {A':Nat→Prop} {ρ':Xf} {own':Nat→Option Nat} {h':Nat→Obj} (he:(execOp a.eval o).run P w=.ok (.value v') w')
    (st:St B w0 A' ρ' own' w' h') (hl:X9 A ρ w A' ρ' w') (hv:Zl A' ρ' w' v v'):Zw P o a w B w0 A ρ v h':=fun next Q K=>by
  unfold Oper.wp; rw [he]; exact K v' w' A' ρ' own' st hl hv
theorem Zw.skip {v:SV} {w':World} {A':Nat→Prop} {ρ':Xf} {own':Nat→Option Nat} {h':Nat→Obj} (he:(execOp a.eval o).run P w=.ok .skip w')
    (st:St B w0 A' ρ' own' w' h') (hl:X9 A ρ w A' ρ' w') (hv:Zl A' ρ' w' v undef):Zw P o a w B w0 A ρ v h':=fun next Q K=>by
  unfold Oper.wp; rw [he]; exact K undef w' A' ρ' own' st hl hv
theorem Hx {k:IntKind} {n:Int} {ov:Ov} {v:Value} (h:Zl A ρ w (.dat (.int k) n ov) v):v=.int k n:=by
  simp only [Zl,Zm] at h; obtain ⟨_,rfl,rfl⟩:=h; rfl
theorem Jj {b:Bool} {ov:Ov} {v:Value} (h:Zl A ρ w (.dat .bool b ov) v):v=.bool b:=by
  simp only [Zl,Zm] at h; obtain ⟨_,rfl,rfl⟩:=h; rfl
theorem Gg {k:IntKind} {n:Int} {ov:Ov}:Zl A ρ w (.dat (.int k) n ov) (.int k n):=by
  simp only [Zl,Zm]; exact ⟨_,rfl,rfl⟩
theorem Hq {b:Bool} {ov:Ov}:Zl A ρ w (.dat .bool b ov) (.bool b):=by
  simp only [Zl,Zm]; exact ⟨_,rfl,rfl⟩
theorem AFx {v:Value} (h:Zl A ρ w .und v):v=undef:=by simpa only [Zl] using h
def ACh (o:Oper) (x:Opd):Bool:=match o.op with
  | .move y=>Xp x y
  | .assign y=>Xp x y
  | _=>false
variable (st:St B w0 A ρ own w h) (hs:Xh A ρ w s a)
include st hs
theorem AJ0 {x:Opd} (hc:ACh o x=true):Zw P o a w B w0 A ρ (evO s x) h:=by
  unfold ACh at hc
  split at hc
  · rename_i y hy
    exact Zw.pure st (by simp [execOp,hy]) (X4 hs hc)
  · rename_i y hy
    exact Zw.pure st (by simp [execOp,hy]) (X4 hs hc)
  · cases hc
def D5 (o:Oper) (c x y:Opd):Bool:=match o.op with
  | .pick c' x' y'=>Xp c c' && Xp x x' && Xp y y'
  | _=>false
omit st hs in
theorem ACj {c x y:Opd} (hc:D5 o c x y=true):∃ c' x' y',o.op=.pick c' x' y'∧Xp c c'=true∧Xp x x'=true∧Xp y y'=true:=by
  unfold D5 at hc
  split at hc
  · rename_i c' x' y' ho
    simp only [Bool.and_eq_true] at hc
    exact ⟨c',x',y',ho,hc.1.1,hc.1.2,hc.2⟩
  · cases hc
theorem F8 {c x y:Opd} (hc:D5 o c x y=true) {t:Bool} {ov:Ov} (ht:evO s c=.dat .bool t ov) {v:SV}
    (hv:∀ u u',Zl A ρ w (evO s x) u→Zl A ρ w (evO s y) u'→Zl A ρ w v (if t then u else u')):Zw P o a w B w0 A ρ v h:=by
  obtain ⟨c',x',y',ho,h1,h2,h3⟩:=ACj hc
  have k1:=X4 hs h1
  rw [ht] at k1
  have k1:=Jj k1
  exact Zw.pure st (by simp [execOp,ho,k1,asBool]) (hv _ _ (X4 hs h2) (X4 hs h3))
def AB8 (o:Oper) (op:BinOp) (x y:Opd):Bool:=match o.op with
  | .binOp op' _ x' y' _=>decide (op'=op) && Xp x x' && Xp y y'
  | _=>false
omit st hs in
theorem AD6 {op:BinOp} {x y:Opd} (hc:AB8 o op x y=true):∃ t x' y' t',o.op=.binOp op t x' y' t'∧Xp x x'=true∧Xp y y'=true:=by
  unfold AB8 at hc
  split at hc
  · rename_i op' t x' y' t' ho
    simp only [Bool.and_eq_true,decide_eq_true_eq] at hc
    obtain ⟨⟨rfl,h1⟩,h2⟩:=hc
    exact ⟨t,x',y',t',ho,h1,h2⟩
  · cases hc
omit st hs in
theorem Dz (op:BinOp) (t:TypeId) (x y:Operand) (k k':IntKind) (m n:Int):(eqGuard op t x y (.int k m) (.int k' n)).run P w=.ok () w:=by
  unfold eqGuard; cases op <;> rfl
omit st hs in
theorem Pu (op:BinOp) (t:TypeId) (x y:Operand) (m n:Bool):(eqGuard op t x y (.bool m) (.bool n)).run P w=.ok () w:=by
  unfold eqGuard; cases op <;> rfl
omit st hs in
theorem O5 (op:BinOp) (t:TypeId) (x y:Operand) (m n:ByteArray):(eqGuard op t x y (.string m) (.string n)).run P w=.ok () w:=by
  unfold eqGuard; cases op <;> rfl
theorem AM4 {R:Type} {op:BinOp} {x y:Opd} {K:SV→Option R} {r:R}
    (hc:AB8 o op x y=true) (hg:AI5 op (evO s x) (evO s y) K=some r) :
    ∃ v,K v=some r∧Zw P o a w B w0 A ρ v h:=by
  obtain ⟨t,x',y',t',ho,h1,h2⟩:=AD6 hc
  have k1:=X4 hs h1
  have k2:=X4 hs h2
  unfold AI5 at hg
  split at hg
  · rename_i k m ov k' n ov' e1 e2
    rw [e1] at k1; rw [e2] at k2
    have k1:=Hx k1
    have k2:=Hx k2
    split at hg
    · rename_i hk
      subst hk
      have fin:∀ v:Value,(Go.binOp op t (.int k m) (.int k n)).run P w=.ok v w→(execOp a.eval o).run P w=.ok (.value v) w:=fun v hv=>by
        simp only [execOp,ho,k1,k2,Sem.run_bind,Dz,Result.andThen_ok,hv,Sem.run_pure]
      unfold Cl at hg
      split at hg
      · exact ⟨_,hg,Zw.pure st (fin _ (by simp [Go.binOp,Op.intArith])) Gg⟩
      · exact ⟨_,hg,Zw.pure st (fin _ (by simp [Go.binOp,Op.intArith])) Gg⟩
      · exact ⟨_,hg,Zw.pure st (fin _ (by simp [Go.binOp,Op.intArith])) Gg⟩
      · split at hg
        · cases hg
        · rename_i hn
          exact ⟨_,hg,Zw.pure st (fin _ (by simp [Go.binOp,Op.intDiv,hn])) Gg⟩
      · split at hg
        · cases hg
        · rename_i hn
          exact ⟨_,hg,Zw.pure st (fin _ (by simp [Go.binOp,Op.intDiv,hn])) Gg⟩
      · exact ⟨_,hg,Zw.pure st (fin _ (by simp [Go.binOp,Op.intCmp]; try rfl)) Hq⟩
      · exact ⟨_,hg,Zw.pure st (fin _ (by simp [Go.binOp,Op.intCmp,bne]; try rfl)) Hq⟩
      · exact ⟨_,hg,Zw.pure st (fin _ (by simp [Go.binOp,Op.intCmp]; try rfl)) Hq⟩
      · exact ⟨_,hg,Zw.pure st (fin _ (by simp [Go.binOp,Op.intCmp]; try rfl)) Hq⟩
      · exact ⟨_,hg,Zw.pure st (fin _ (by simp [Go.binOp,Op.intCmp]; try rfl)) Hq⟩
      · exact ⟨_,hg,Zw.pure st (fin _ (by simp [Go.binOp,Op.intCmp]; try rfl)) Hq⟩
      · cases hg
    · cases hg
  · cases hg
end
end Go.Proofs.YtjobjooccgledaaGreatDoor.Ghost
namespace Go.Proofs.YtjobjooccgledaaGreatDoor.Ghost
open Go
section
variable {P:Program} {o:Oper} {a:Act} {w:World} {B:Nat} {w0:Y6} {A:Nat→Prop} {ρ:Xf} {own:Nat→Option Nat} {h:Nat→Obj} {s:Nat→SV}
def AGp (o:Oper) (x:Opd):Bool:=match o.op with
  | .unOp .not _ y=>Xp x y
  | _=>false
def AGo (o:Oper) (x:Opd):Bool:=match o.op with
  | .unOp .neg _ y=>Xp x y
  | _=>false
def isI (P:Program) (k:IntKind) (t:TypeId):Bool:=match P.underlying t with
  | some (.int k')=>decide (k'=k)
  | _=>false
def ACa (P:Program) (o:Oper) (k:IntKind) (x:Opd):Bool:=match o.op with
  | .convert src dst y=>isI P k dst && (P.underlying src).isSome && Xp x y
  | _=>false
def Lq (o:Oper) (x:Opd) (i:Nat):Bool:=match o.op with
  | .extract y j=>Nat.beq i j && Xp x y
  | _=>false
def ACc (o:Oper) (f:FuncId) (caps:List Opd):Bool:=match o.op with
  | .makeFunc (.func g) first captured=>Nat.beq f g && first.toList.isEmpty && Jt caps captured.toList
  | _=>false
def Nk (o:Oper) (b:Builtin→Bool) (xs:List Opd):Bool:=match o.op with
  | .call c=>(match c.callee with | .builtin b'=>b b' | _=>false) && Jt xs c.args.toList
  | _=>false
def ANj (P:Program) (o:Oper):Bool:=match o.op with
  | .call c=>(match c.argTypes.toList with
    | t :: _=>(match P.underlying t with | some .string=>true | _=>false)
    | []=>false)
  | _=>false
def ANi (P:Program) (o:Oper):Bool:=match o.op with
  | .call c=>(match c.argTypes.toList with | t :: _=>(match P.underlying t with | some (.slice _)=>true | _=>false) | _=>false)
  | _=>false
theorem ANf {k:IntKind} {t:TypeId} (h:isI P k t=true):P.underlying t=some (.int k):=by
  unfold isI at h
  split at h
  · rename_i k' hk; rw [hk]; simp at h; rw [h]
  · cases h
variable (st:St B w0 A ρ own w h) (hs:Xh A ρ w s a)
include st hs
theorem ANb {x:Opd} (hc:AGp o x=true) {b:Bool} {ov:Ov} (hx:evO s x=.dat .bool b ov):Zw P o a w B w0 A ρ (.dat .bool (!b) []) h:=by
  unfold AGp at hc
  split at hc
  · rename_i t y ho
    have k:=X4 hs hc
    rw [hx] at k
    have k:=Jj k
    exact Zw.pure st (by simp [execOp,ho,k,Op.unary]) Hq
  · cases hc
theorem ANa {x:Opd} (hc:AGo o x=true) {k:IntKind} {n:Int} {ov:Ov} (hx:evO s x=.dat (.int k) n ov):Zw P o a w B w0 A ρ (.dat (.int k) (k.wrap (0 - n)) []) h:=by
  unfold AGo at hc
  split at hc
  · rename_i t y ho
    have k1:=X4 hs hc
    rw [hx] at k1
    have k1:=Hx k1
    exact Zw.pure st (v':=.int k (k.wrap (0 - n))) (by simp only [execOp,ho,k1,Op.unary,Op.intArith,Sem.run_bind,Sem.run_pure,Result.andThen_ok]) Gg
  · cases hc
theorem AJu {x:Opd} {k:IntKind} (hc:ACa P o k x=true) {k':IntKind} {n:Int} {ov:Ov} (hx:evO s x=.dat (.int k') n ov):Zw P o a w B w0 A ρ (.dat (.int k) (k.wrap n) []) h:=by
  unfold ACa at hc
  split at hc
  · rename_i src dst y ho
    simp only [Bool.and_eq_true] at hc
    have k1:=X4 hs hc.2
    rw [hx] at k1
    have k1:=Hx k1
    obtain ⟨d,hd⟩:=Option.isSome_iff_exists.1 hc.1.2
    have hi:=ANf hc.1.1
    refine Zw.pure st (v':=.int k (k.wrap n)) ?_ Gg
    simp only [execOp,ho,k1,convert,Sem.run_bind,run_underlying hd w,run_underlying hi w,Result.andThen_ok,Conv.intToInt,Sem.run_pure]
  · cases hc
theorem ACt {x:Opd} {i:Nat} (hc:Lq o x i=true) {us:List SV} {u:SV} (hx:evO s x=.tup us) (hu:us[i]?=some u):Zw P o a w B w0 A ρ u h:=by
  unfold Lq at hc
  split at hc
  · rename_i y j ho
    simp only [Bool.and_eq_true] at hc
    have hij:=Nat.eq_of_beq_eq_true hc.1
    subst hij
    have k1:=X4 hs hc.2
    rw [hx] at k1
    simp only [Zl] at k1
    obtain ⟨vs,k1,k2⟩:=k1
    have get:∀ (us:List SV) (vs:List Value) (i:Nat),Zs A ρ w us vs→us[i]?=some u→∃ v,vs[i]?=some v∧Zl A ρ w u v:=by
      intro us
      induction us with
      | nil=>intro vs i _ h; simp at h
      | cons u' r ih =>
        intro vs i h1 h2
        simp only [Zs] at h1
        obtain ⟨v,vs',rfl,h3,h4⟩:=h1
        cases i with
        | zero=>simp at h2; subst h2; exact ⟨v,by simp,h3⟩
        | succ i=>simpa using ih vs' i h4 (by simpa using h2)
    obtain ⟨v,m1,m2⟩:=get us vs i k2 hu
    refine Zw.pure st (v':=v) ?_ m2
    simp [execOp,ho,k1,Instr.extract,m1]
  · cases hc
theorem AJv {f:FuncId} {caps:List Opd} (hc:ACc o f caps=true):Zw P o a w B w0 A ρ (.clo f (caps.map (evO s))) h:=by
  unfold ACc at hc
  split at hc
  · rename_i g first captured ho
    simp only [Bool.and_eq_true,List.isEmpty_iff] at hc
    have hij:=Nat.eq_of_beq_eq_true hc.1.1
    subst hij
    have k1:=Rl hs hc.2
    have hf:first = #[]:=by simpa using hc.1.2
    subst hf
    refine Zw.pure st (v':=.func (.func f) #[] (captured.map a.eval)) ?_ ?_
    · simp [execOp,ho,Instr.makeFunc]
    · simp only [Zl]
      exact ⟨_,by rw [← Array.toList_map],k1⟩
  · cases hc
omit st hs in
theorem To {b:Builtin→Bool} {xs:List Opd} (hc:Nk o b xs=true):∃ c b',o.op=.call c∧c.callee=.builtin b'∧b b'=true∧Jt xs c.args.toList=true:=by
  unfold Nk at hc
  split at hc
  · rename_i c ho
    simp only [Bool.and_eq_true] at hc
    cases hb:c.callee with
    | builtin b'=>simp only [hb] at hc; exact ⟨c,b',ho,hb,hc.1,hc.2⟩
    | value f=>simp [hb] at hc
    | invoke f m=>simp [hb] at hc
  · cases hc
omit st hs in
theorem Wh {c:Call} {b:Builtin} (ho:o.op=.call c) (hb:c.callee=.builtin b) :
    (execOp a.eval o).run P w=(builtin b c.argTypes o.type (c.args.map fun | .const _=>true | _=>false) (c.args.map a.eval)).run P w:=by
  simp [execOp,ho,Go.resolve,hb,invoke]; rfl
theorem AJx {x:Opd} (hc:Nk o (fun | .len=>true | _=>false) [x]=true) (ht:ANj P o=true) {y:ByteArray} {ov:Ov} (hx0:evO s x=.dat .str y ov):Zw P o a w B w0 A ρ (.dat (.int .i64) ((ByteArray.size y:Nat):Int) []) h:=by
  obtain ⟨c,b,ho,hb,hbb,hx⟩:=To hc
  cases b <;> simp at hbb
  simp only [ANj,ho] at ht
  have hx':∃ y,c.args.toList=[y]∧Xp x y=true:=by
    cases hl:c.args.toList with
    | nil=>rw [hl] at hx; simp [Jt] at hx
    | cons y r=>cases r with
      | nil=>rw [hl] at hx; simp [Jt] at hx; exact ⟨y,rfl,hx⟩
      | cons z r=>rw [hl] at hx; simp [Jt] at hx
  obtain ⟨z,hy,hxy⟩:=hx'
  have hargs:c.args = #[z]:=by rw [← Array.toArray_toList (xs:=c.args),hy]
  cases htl:c.argTypes.toList with
  | nil=>simp [htl] at ht
  | cons t tr =>
    simp only [htl] at ht
    have ht0:c.argTypes[0]?=some t:=by rw [← Array.getElem?_toList,htl]; rfl
    have hu:P.underlying t=some .string:=by
      split at ht
      · rename_i he; exact he
      · cases ht
    have k1:=X4 hs hxy
    rw [hx0] at k1
    simp only [Zl,Zm] at k1
    obtain ⟨cs,rfl,hv⟩:=k1
    have hv:a.eval z=.string y:=hv
    refine Zw.pure st (v':=.int .i64 ((ByteArray.size y:Nat):Int)) ?_ Gg
    rw [Wh ho hb,hargs]
    simp only [builtin,Builtin.len_,List.map_toArray,List.map_cons,List.map_nil,hv,ht0,Sem.run_bind]
    simp [run_underlying hu w,goInt]
theorem AM7 {x:Opd} (hc:Nk o (fun | .len=>true | _=>false) [x]=true) (ht:ANi P o=true) {R:Type} {K:SV→Option R} {r:R} (hg:ACz h (evO s x) K=some r) :
    ∃ v,K v=some r∧Zw P o a w B w0 A ρ v h:=by
  obtain ⟨c,b,ho,hb,hbb,hx⟩:=To hc
  cases b <;> simp at hbb
  simp only [ANi,ho] at ht
  have hx':∃ y,c.args.toList=[y]∧Xp x y=true:=by
    cases hl:c.args.toList with
    | nil=>rw [hl] at hx; simp [Jt] at hx
    | cons y r=>cases r with
      | nil=>rw [hl] at hx; simp [Jt] at hx; exact ⟨y,rfl,hx⟩
      | cons z r=>rw [hl] at hx; simp [Jt] at hx
  obtain ⟨y,hy,hxy⟩:=hx'
  have hargs:c.args = #[y]:=by rw [← Array.toArray_toList (xs:=c.args),hy]
  cases htl:c.argTypes.toList with
  | nil=>simp [htl] at ht
  | cons t tr =>
    simp only [htl] at ht
    have ht0:c.argTypes[0]?=some t:=by rw [← Array.getElem?_toList,htl]; rfl
    have hu:∃ e,P.underlying t=some (.slice e):=by
      split at ht
      · rename_i e he; exact ⟨e,he⟩
      · cases ht
    obtain ⟨e,hu⟩:=hu
    have k1:=X4 hs hxy
    have fin:∀ (ad:Option Addr) (n m:Nat),a.eval y=.slice ad n m→(execOp a.eval o).run P w=.ok (.value (.int .i64 n)) w:=fun ad n m hv=>by
      rw [Wh ho hb,hargs]
      simp only [builtin,Builtin.len_,List.map_toArray,List.map_cons,List.map_nil,hv,ht0,Sem.run_bind]
      simp [run_underlying hu w,goInt]
    unfold ACz at hg
    split at hg
    · rename_i el l e1
      rw [e1] at k1
      simp only [Zl,Zm] at k1
      obtain ⟨cs,⟨ad,n,m,rfl,_,h3⟩,hv⟩:=k1
      have hn:=(h3 (by simp)).1
      subst hn
      exact ⟨_,hg,Zw.pure st (fin ad _ m hv) Gg⟩
    · rename_i el l0 g e1
      rw [e1] at k1
      simp only [Zl,Zm] at k1
      obtain ⟨cs,⟨ad,n,m,rfl,h2,_⟩,hv⟩:=k1
      obtain ⟨sp,ad',hr,_,heq,_⟩:=h2 g (by simp)
      have ob:=st.objs g
      split at hg
      · rename_i el' l e2
        rw [e2] at ob
        simp only [Vn,V4] at ob
        obtain ⟨sp',hr',_,_,_,_,_,hl,_⟩:=ob
        rw [hr] at hr'
        cases hr'
        cases heq
        refine ⟨_,hg,Zw.pure st (fin _ _ _ hv) ?_⟩
        rw [hl]; exact Gg
      · rename_i el' l e2
        rw [e2] at ob
        simp only [Vn,V4] at ob
        obtain ⟨sp',hr',_,_,_,_,_,hl,_⟩:=ob
        rw [hr] at hr'
        cases hr'
        cases heq
        refine ⟨_,hg,Zw.pure st (fin _ _ _ hv) ?_⟩
        rw [hl]; exact Gg
      · cases hg
    · rename_i us e1
      rw [e1] at k1
      simp only [Zl] at k1
      obtain ⟨ad,n,m,hv,hn,_⟩:=k1
      subst hn
      exact ⟨_,hg,Zw.pure st (fin _ _ _ hv) Gg⟩
    · cases hg
end
end Go.Proofs.YtjobjooccgledaaGreatDoor.Ghost
namespace Go.Proofs.YtjobjooccgledaaGreatDoor.Ghost
open Go
mutual
theorem Tx:(τ:Ty)→(p q:Z8)→(x:den τ)→(d:Dyn)→okP τ p→getP p τ x=some d→okP d.τ q→okP τ (p ++ q)∧Jd τ (p ++ q)=Jd τ p+Jd d.τ q
  | τ,[],q,x,d,_,h,hq=>by
    have:d=⟨τ,x⟩:=by cases τ <;> simpa [getP,eq_comm] using h
    subst this
    have h0:Jd τ []=0:=by cases τ <;> rfl
    exact ⟨hq,by rw [h0,Nat.zero_add]; rfl⟩
  | .st fs,i :: p,q,x,d,hk,h,hq=>by
    simp only [okP] at hk
    simp only [getP] at h
    simp only [List.cons_append,okP,Jd]
    exact B2 fs i p q x d hk h hq
  | .arr n e,i :: p,q,x,d,hk,h,hq=>by
    simp only [okP] at hk
    simp only [getP] at h
    simp only [List.cons_append,okP,Jd]
    have:=Tx e p q _ d hk.2 h hq
    exact ⟨⟨hk.1,this.1⟩,by rw [this.2]; omega⟩
  | .bool,_ :: _,_,_,_,hk,_,_=>by simp [okP] at hk
  | .int _,_ :: _,_,_,_,hk,_,_=>by simp [okP] at hk
  | .str,_ :: _,_,_,_,hk,_,_=>by simp [okP] at hk
  | .sl _,_ :: _,_,_,_,hk,_,_=>by simp [okP] at hk
theorem B2:(fs:List Ty)→(i:Nat)→(p q:Z8)→(x:K7 fs)→(d:Dyn)→okF fs i p →
    (match Gs fs i x with | some d=>getP p d.τ d.x | none=>none)=some d→okP d.τ q→okF fs i (p ++ q)∧Gv fs i (p ++ q)=Gv fs i p+Jd d.τ q
  | [],_,_,_,_,_,hk,_,_=>by simp [okF] at hk
  | t :: r,0,p,q,x,d,hk,h,hq=>by
    simp only [okF] at hk
    simp only [Gs] at h
    simp only [okF,Gv]
    exact Tx t p q x.1 d hk h hq
  | t :: r,n+1,p,q,x,d,hk,h,hq=>by
    simp only [okF] at hk
    simp only [Gs] at h
    simp only [okF,Gv]
    have:=B2 r n p q x.2 d hk h hq
    exact ⟨this.1,by rw [this.2]; omega⟩
end
theorem Oe {P:Program}:(fs:List Ty)→(l:List Field)→(o j:Nat)→Q5 P fs o l=true→j<fs.length →
    ∃ f t,l[j]?=some f∧fs[j]?=some t∧f.offset=o+Gv fs j []∧Jr P f.type (Zj t)=true∧0<Zj t∧Xx P t f.type=true∧okF fs j []
  | [],_,_,_,_,hj=>by simp at hj
  | _ :: _,[],_,_,h,_=>by simp [Q5] at h
  | t :: r,f :: s,o,0,h,_=>by
    simp only [Q5,Bool.and_eq_true] at h
    obtain ⟨⟨⟨⟨h1,h2⟩,h3⟩,h4⟩,_⟩:=h
    have h0:Jd t []=0:=by cases t <;> rfl
    have k0:okP t []:=by cases t <;> trivial
    exact ⟨f,t,rfl,rfl,by simp only [Gv,h0]; exact Nat.eq_of_beq_eq_true h1,h2,by simpa [Nat.blt_eq] using h3,h4,k0⟩
  | t :: r,f :: s,o,j+1,h,hj=>by
    simp only [Q5,Bool.and_eq_true] at h
    obtain ⟨f',t',h1,h2,h3,h4⟩:=Oe r s (o+Zj t) j h.2 (by simpa using hj)
    exact ⟨f',t',by simpa using h1,by simpa using h2,by simp only [Gv]; omega,h4⟩
theorem AA0:(fs:List Ty)→(j:Nat)→(x:K7 fs)→(d:Dyn)→Gs fs j x=some d→fs[j]?=some d.τ
  | [],_,_,_,h=>by simp [Gs] at h
  | t :: r,0,x,d,h=>by simp [Gs] at h; subst h; rfl
  | t :: r,n+1,x,d,h=>by simp only [Gs] at h; simpa using AA0 r n x.2 d h
theorem AMz {fs:List Ty} {j:Nat} {x:K7 fs} {d:Dyn} (h:getP [j] (.st fs) x=some d):Gs fs j x=some d:=by
  simp only [getP] at h
  split at h
  · rename_i d' hd
    rw [hd]
    have:getP [] d'.τ d'.x=some d':=by
      obtain ⟨τ,y⟩:=d'
      cases τ <;> rfl
    exact this.symm.trans h
  · cases h
theorem K3 {w:World} {b o:Nat} {cs:List Value} (h:w.rangeAt b o cs) (k n:Nat):w.rangeAt b (o+k) (cut cs k n):=fun j v hv=>by
  rw [Qx] at hv
  split at hv
  · have:=h (k+j) v hv
    rw [show o+(k+j)=o+k+j by omega] at this
    exact this
  · cases hv
theorem AEm (cs:Array Value) (o n:Nat):(cs.extract o (o+n))=(cut cs.toList o n).toArray:=by
  apply Array.ext'
  rw [Array.toList_extract]
  simp [cut]
section
variable {P:Program} {o:Oper} {a:Act} {w:World} {B:Nat} {w0:Y6} {A:Nat→Prop} {ρ:Xf} {own:Nat→Option Nat} {h:Nat→Obj} {s:Nat→SV}
theorem AAn {τ:Ty} {x:den τ} {ov:Ov} {cs:List Value} (hr:Zm A ρ w τ x ov cs) (ha:Ua τ=false):∃ v,cs=[v]:=by
  have:=Zm.length τ hr
  have h1:Zj τ=1:=by cases τ <;> simp [Ua] at ha <;> rfl
  rw [h1] at this
  match cs,this with
  | [v],_=>exact ⟨v,rfl⟩
theorem Pv {τ:Ty} {t:TypeId} {cs:Array Value} {off:Nat} {x:den τ} {ov:Ov} (hd:Xx P τ t=true) (hz:Jr P t (Zj τ)=true)
    (hr:Zm A ρ w τ x ov (cut cs.toList off (Zj τ))):(part t cs off).run P w=.ok (mkV τ (cut cs.toList off (Zj τ))) w:=by
  obtain ⟨d,h1,h2⟩:=E9 hd
  unfold part
  rw [Sem.run_bind,Ah h1 w,Result.andThen_ok,h2]
  cases ha:Ua τ with
  | true =>
    simp only [if_true,Sem.run_bind,J7 hz,Result.andThen_ok,Sem.run_pure,mkV,ha,AEm]
  | false =>
    obtain ⟨v,hv⟩:=AAn hr ha
    have h3:(cut cs.toList off (Zj τ))[0]?=some v:=by rw [hv]; rfl
    rw [Qx] at h3
    split at h3
    · simp only [Nat.add_zero,Array.getElem?_toList] at h3
      simp [h3,mkV,ha,hv]
    · cases h3
def Cr (P:Program) (o:Oper) (τ:Ty) (j:Nat) (x:Opd):Bool:=match o.op with
  | .field T y i=>Nat.beq i j && Xx P τ T && (match τ with | .st _=>true | _=>false) && Xp x y
  | _=>false
theorem AGy (st:St B w0 A ρ own w h) (hs:Xh A ρ w s a) {τ:Ty} {j:Nat} {x:Opd} (hc:Cr P o τ j x=true) {y:den τ} {ov:Ov} (hx:evO s x=.dat τ y ov)
    {d:Dyn} (hg:getP [j] τ y=some d):Zw P o a w B w0 A ρ (.dat d.τ d.x (Jv [j] ov)) h:=by
  unfold Cr at hc
  split at hc
  · rename_i T z i ho
    simp only [Bool.and_eq_true] at hc
    obtain ⟨⟨⟨hi,hd⟩,hst⟩,hxz⟩:=hc
    have hi:=Nat.eq_of_beq_eq_true hi
    subst hi
    cases τ with
    | st fs =>
      have k1:=X4 hs hxz
      rw [hx] at k1
      simp only [Zl] at k1
      obtain ⟨cs,k1,k2⟩:=k1
      simp only [mkV,Ua] at k2
      have hf:=AMz hg
      have hty:=AA0 fs i y d hf
      have hlt:i<fs.length:=(List.getElem?_eq_some_iff.1 hty).1
      simp only [Xx] at hd
      cases hu:P.underlying T with
      | none=>simp [hu] at hd
      | some dd =>
        cases dd with
        | struct l =>
          simp only [hu] at hd
          obtain ⟨f,t,m1,m2,m3,m4,m5,m6,m7⟩:=Oe fs l.toList 0 i hd hlt
          rw [hty] at m2
          cases m2
          have hp:=Zm.getP (.st fs) [i] k1 (by simpa only [okP] using m7) hg
          have m1':l[i]?=some f:=by rw [← Array.getElem?_toList]; exact m1
          have hoff:f.offset=Jd (.st fs) [i]:=by rw [m3,Nat.zero_add]; rfl
          rw [← hoff] at hp
          have hpart:=Pv (P:=P) (cs:=cs.toArray) (off:=f.offset) m6 m4 (by simpa using hp)
          refine Zw.pure st (v':=mkV d.τ (cut cs f.offset (Zj d.τ))) ?_ (by simp only [Zl]; exact ⟨_,hp,rfl⟩)
          simp only [execOp,ho,k2,Instr.field,Sem.run_bind,run_underlying hu w,Result.andThen_ok,m1',asAgg,Sem.run_pure,hpart]
        | _=>simp [hu] at hd
    | _=>simp at hst
  · cases hc
end
end Go.Proofs.YtjobjooccgledaaGreatDoor.Ghost
namespace Go.Proofs.YtjobjooccgledaaGreatDoor.Ghost
open Go
section
variable {P:Program} {o:Oper} {a:Act} {w:World} {B:Nat} {w0:Y6} {A:Nat→Prop} {ρ:Xf} {own:Nat→Option Nat} {h:Nat→Obj} {s:Nat→SV}
def Hz (P:Program):List Nat→Nat→List Field→Bool
  | [],_,[]=>true
  | n :: r,o,f :: s=>Nat.beq f.offset o && Jr P f.type n && Nat.blt 0 n && Hz P r (o+n) s
  | _,_,_=>false
def AQq (P:Program):FT→TypeId→Bool
  | .d (.st fs),t=>Xx P (.st fs) t
  | .d _,_=>false
  | .v sizes,t=>(match P.underlying t with | some (.struct l)=>Hz P sizes 0 l.toList | _=>false)
def P6 (P:Program) (o:Oper) (t:FT) (j:Nat) (x:Opd):Bool:=match o.op with
  | .fieldAddr T y i=>Nat.beq i j && AQq P t T && Xp x y
  | _=>false
def Wj:List Nat→Nat→Nat
  | [],_=>0
  | _ :: _,0=>0
  | n :: r,j+1=>n+Wj r j
theorem Oy:(sizes:List Nat)→(l:List Field)→(o j:Nat)→Hz P sizes o l=true→j<sizes.length →
    ∃ f n,l[j]?=some f∧f.offset=o+Wj sizes j∧Jr P f.type n=true∧0<n
  | [],_,_,_,_,hj=>by simp at hj
  | _ :: _,[],_,_,h,_=>by simp [Hz] at h
  | n :: r,f :: s,o,0,h,_=>by
    simp only [Hz,Bool.and_eq_true] at h
    exact ⟨f,n,rfl,by rw [show Wj (n :: r) 0=0 from rfl,Nat.add_zero]; exact Nat.eq_of_beq_eq_true h.1.1.1,h.1.1.2,by simpa [Nat.blt_eq] using h.1.2⟩
  | n :: r,f :: s,o,j+1,h,hj=>by
    simp only [Hz,Bool.and_eq_true] at h
    obtain ⟨f',n',h1,h2,h3⟩:=Oy r s (o+n) j h.2 (by simpa using hj)
    exact ⟨f',n',by simpa using h1,by simp only [Wj]; omega,h3⟩
theorem AF4 {T:TypeId} {l:Array Field} {i:Nat} {f:Field} {n b k:Nat} (hu:P.underlying T=some (.struct l)) (hf:l[i]?=some f) (hn:Jr P f.type n=true) (hp:0<n) :
    (Instr.fieldAt T (.pointer (some ⟨b,k,none⟩)) i).run P w=.ok (.pointer (some ⟨b,k+f.offset,none⟩)) w:=by
  have:n≠0:=by omega
  simp only [Instr.fieldAt,Sem.run_bind,run_underlying hu w,Result.andThen_ok,hf,Instr.sureAddr,Sem.run_pure,fieldPlace,J7 hn,this,if_false,Addr.add_mid]
theorem Ee:{a b:List Nat}→Yb.natsEq a b=true→a=b
  | [],[],_=>rfl
  | x :: r,y :: s,h=>by
    simp only [Yb.natsEq,Bool.and_eq_true] at h
    rw [Nat.eq_of_beq_eq_true h.1,Ee h.2]
theorem Rx:(us:List SV)→(Yb.sizesV us).length=us.length
  | []=>rfl
  | _ :: r=>by simp [Yb.sizesV,Rx r]
theorem Mw:(us:List SV)→(j:Nat)→G2 us j []=Wj (Yb.sizesV us) j
  | [],_=>rfl
  | u :: r,0=>by
    have:Wp u []=0:=by cases u <;> rfl
    simp only [G2,this,Yb.sizesV,Wj]
  | u :: r,j+1=>by simp only [G2,Yb.sizesV,Wj,Mw r j]
theorem Mp:(us:List SV)→(j:Nat)→getV.getVL us j []=us[j]?
  | [],_=>by simp [getV.getVL]
  | u :: r,0=>by cases u <;> simp [getV.getVL,getV]
  | u :: r,j+1=>by simp only [getV.getVL,Mp r j]; simp
mutual
theorem Dd:(u:SV)→(p q:Z8)→(x:SV)→getV u p=some x→getV u (p ++ q)=getV x q∧Wp u (p ++ q)=Wp u p+Wp x q
  | u,[],q,x,hg=>by
    have:u=x:=by cases u <;> simpa [getV] using hg
    subst this
    have:Wp u []=0:=by cases u <;> rfl
    exact ⟨rfl,by rw [this,Nat.zero_add]; rfl⟩
  | .agv us,i :: p,q,x,hg=>by
    simp only [getV] at hg
    have:=Iv us i p q x hg
    simpa only [List.cons_append,getV,Wp] using this
  | .dat _ _ _,_ :: _,_,_,hg=>by simp [getV] at hg
  | .ptr _ _,_ :: _,_,_,hg=>by simp [getV] at hg
  | .ref _ _,_ :: _,_,_,hg=>by simp [getV] at hg
  | .refv _,_ :: _,_,_,hg=>by simp [getV] at hg
  | .selfc _ _,_ :: _,_,_,hg=>by simp [getV] at hg
  | .glo _,_ :: _,_,_,hg=>by simp [getV] at hg
  | .elp _ _ _,_ :: _,_,_,hg=>by simp [getV] at hg
  | .clo _ _,_ :: _,_,_,hg=>by simp [getV] at hg
  | .tup _,_ :: _,_,_,hg=>by simp [getV] at hg
  | .slv _,_ :: _,_,_,hg=>by simp [getV] at hg
  | .fmap _ _,_ :: _,_,_,hg=>by simp [getV] at hg
  | .nilfn,_ :: _,_,_,hg=>by simp [getV] at hg
  | .und,_ :: _,_,_,hg=>by simp [getV] at hg
  | .junk,_ :: _,_,_,hg=>by simp [getV] at hg
theorem Iv:(us:List SV)→(i:Nat)→(p q:Z8)→(x:SV)→getV.getVL us i p=some x→getV.getVL us i (p ++ q)=getV x q∧G2 us i (p ++ q)=G2 us i p+Wp x q
  | [],_,_,_,_,hg=>by simp [getV.getVL] at hg
  | u :: r,0,p,q,x,hg=>by
    simp only [getV.getVL] at hg
    simpa only [getV.getVL,G2] using Dd u p q x hg
  | u :: r,n+1,p,q,x,hg=>by
    simp only [getV.getVL] at hg
    have:=Iv r n p q x hg
    simp only [getV.getVL,G2]
    exact ⟨this.1,by rw [this.2]; omega⟩
end
theorem Hj {g:Nat} {p:Z8} {v:Value} {sp:K1} (hv:Zl A ρ w (.ptr g p) v) (hr:ρ g=some sp) (hm:sp.mp=false):sp.ok p∧v=.pointer (some ⟨sp.b,sp.off p,none⟩):=by
  simp only [Zl] at hv
  obtain ⟨s',h1,h2,h3⟩:=hv
  rw [hr] at h1
  cases h1
  rw [hm] at h3
  exact ⟨h2,h3⟩
theorem AHa {g:Nat} {p:Z8} {sp:K1} (hr:ρ g=some sp) (hm:sp.mp=false) (hk:sp.ok p):Zl A ρ w (.ptr g p) (.pointer (some ⟨sp.b,sp.off p,none⟩)):=by
  simp only [Zl]
  exact ⟨sp,hr,hk,by rw [hm]⟩
theorem Ab {g i:Nat} {p:Z8} {v:Value} {sp:K1} (hv:Zl A ρ w (.elp g i p) v) (hr:ρ g=some sp):i<sp.len∧sp.ok p∧v=.pointer (some ⟨sp.b,i * sp.es+sp.off p,none⟩):=by
  simp only [Zl] at hv
  obtain ⟨s',h1,_,h2,h3,h4⟩:=hv
  rw [hr] at h1
  cases h1
  exact ⟨h2,h3,h4⟩
variable (st:St B w0 A ρ own w h) (hs:Xh A ρ w s a)
include st hs
theorem Bl {t:FT} {j:Nat} {x:Opd} (hc:P6 P o t j x=true) {R:Type} {K:SV→Option R} {r:R} (hg:Yb h t j (evO s x) K=some r) :
    ∃ v,K v=some r∧Zw P o a w B w0 A ρ v h:=by
  unfold P6 at hc
  split at hc
  case h_2=>cases hc
  rename_i T y i ho
  simp only [Bool.and_eq_true] at hc
  obtain ⟨⟨hi,hT⟩,hxy⟩:=hc
  have hi:=Nat.eq_of_beq_eq_true hi
  subst hi
  have k1:=X4 hs hxy
  have fin:∀ (l:Array Field) (f:Field) (n b k:Nat) (v:SV),P.underlying T=some (.struct l)→l[i]?=some f→Jr P f.type n=true→0<n→a.eval y=.pointer (some ⟨b,k,none⟩) →
      Zl A ρ w v (.pointer (some ⟨b,k+f.offset,none⟩))→Zw P o a w B w0 A ρ v h:=fun l f n b k v h1 h2 h3 h4 h5 h6 =>
    Zw.pure st (by simp only [execOp,ho,h5,Sem.run_bind,AF4 h1 h2 h3 h4,Result.andThen_ok,Sem.run_pure]) h6
  unfold Yb at hg
  cases t with
  | d σ =>
    cases σ with
    | st fs =>
      simp only [AQq] at hT
      have hd:=hT
      simp only [Xx] at hT
      cases hu:P.underlying T with
      | none=>simp [hu] at hT
      | some dd =>
        cases dd with
        | struct l =>
          simp only [hu] at hT
          simp only [] at hg
          cases hj:Nat.blt i fs.length with
          | false=>rw [hj] at hg; simp at hg
          | true =>
            rw [hj] at hg
            simp only [cond_true] at hg
            obtain ⟨f,t,m1,m2,m3,m4,m5,m6,m7⟩:=Oe fs l.toList 0 i hT (by simpa [Nat.blt_eq] using hj)
            have m1':l[i]?=some f:=by rw [← Array.getElem?_toList]; exact m1
            have hoff:f.offset=Jd (.st fs) [i]:=by rw [m3,Nat.zero_add]; rfl
            have hok:okP (.st fs) [i]:=by simpa only [okP] using m7
            have box:∀ (g:Nat) (p:Z8) (τ:Ty) (z:den τ) (ov:Ov) (M:K1→List Value→Prop),evO s x=.ptr g p→Tk A ρ w g τ z ov M →
                Yb.fld τ z p (.st fs) (K (.ptr g (p ++ [i])))=some r→∃ v,K v=some r∧Zw P o a w B w0 A ρ v h:=fun g p τ z ov M hx hb hf=>by
              obtain ⟨sp,cs,n1,n2,n3,n4,_,_⟩:=hb
              rw [hx] at k1
              obtain ⟨q1,q2⟩:=Hj k1 n1 n2
              rw [n4] at q1
              unfold Yb.fld at hf
              split at hf
              · rename_i d hd'
                split at hf
                · rename_i pl _
                  obtain ⟨dτ,dx⟩:=d
                  have hdt:dτ=.st fs:=pl.down
                  subst hdt
                  have:=Tx τ p [i] z ⟨.st fs,dx⟩ q1 hd' hok
                  refine ⟨_,hf,fin l f _ _ _ _ hu m1' m4 m5 q2 ?_⟩
                  have e:sp.off p+f.offset=sp.off (p ++ [i]):=by rw [n3,this.2,hoff]
                  rw [e]
                  exact AHa n1 n2 (by rw [n4]; exact this.1)
                · cases hf
              · cases hf
            have arr:∀ (g k:Nat) (p:Z8) (e:Ty) (z:List (den e)) (M:K1→List Value→Prop),evO s x=.elp g k p→V4 A ρ w g e z M →
                Yb.fld e (dft e) p (.st fs) (K (.elp g k (p ++ [i])))=some r→∃ v,K v=some r∧Zw P o a w B w0 A ρ v h:=fun g k p e z M hx hb hf=>by
              obtain ⟨sp,n1,n2,n3,n4,n5,n6,_⟩:=hb
              rw [hx] at k1
              obtain ⟨q0,q1,q2⟩:=Ab k1 n1
              rw [n6] at q1
              unfold Yb.fld at hf
              split at hf
              · rename_i d hd'
                split at hf
                · rename_i pl _
                  obtain ⟨dτ,dx⟩:=d
                  have hdt:dτ=.st fs:=pl.down
                  subst hdt
                  have:=Tx e p [i] (dft e) ⟨.st fs,dx⟩ q1 hd' hok
                  refine ⟨_,hf,fin l f _ _ _ _ hu m1' m4 m5 q2 ?_⟩
                  have e':k * sp.es+sp.off p+f.offset=k * sp.es+sp.off (p ++ [i]):=by rw [n5,this.2,hoff]; exact Nat.add_assoc _ _ _
                  rw [e']
                  simp only [Zl]
                  exact ⟨sp,n1,n2,q0,by rw [n6]; exact this.1,rfl⟩
                · cases hf
              · cases hf
            split at hg
            · rename_i g p hx
              have ob:=st.objs g
              split at hg
              · rename_i τ z ov hh; rw [hh] at ob; exact box g p τ z ov _ hx ob hg
              · rename_i τ z ov hh; rw [hh] at ob; exact box g p τ z ov _ hx ob hg
              · cases hg
            · rename_i g k p hx
              have ob:=st.objs g
              split at hg
              · rename_i e z hh; rw [hh] at ob; exact arr g k p e z _ hx ob hg
              · rename_i e z hh; rw [hh] at ob; exact arr g k p e z _ hx ob hg
              · cases hg
            · rename_i τ z hx
              split at hg
              · rename_i pl d _ hd'
                have hτ:τ=.st fs:=pl.down
                subst hτ
                rw [hx] at k1
                simp only [Zl] at k1
                obtain ⟨b,k,cs,q1,q2,q3,q4⟩:=k1
                have hp:=Zm.getP (.st fs) [i] q4 hok hd'
                refine ⟨_,hg,fin l f _ _ _ _ hu m1' m4 m5 q1 ?_⟩
                simp only [Zl]
                refine ⟨b,k+f.offset,_,rfl,q2,?_,Zm.ov d.τ (fun e => ?_) hp⟩
                · rw [hoff]; exact K3 q3 _ _
                · obtain ⟨q,oo⟩:=e
                  rw [Qa]; simp
              · cases hg
            · cases hg
        | _=>simp [hu] at hT
    | _=>simp [AQq] at hT
  | v sizes =>
    simp only [AQq] at hT
    simp only [] at hg
    cases hu:P.underlying T with
    | none=>simp [hu] at hT
    | some dd =>
      cases dd with
      | struct l =>
        simp only [hu] at hT
        have boxv:∀ (g:Nat) (p:Z8) (u:SV) (M:K1→List Value→Prop),evO s x=.ptr g p→Uy A ρ w g u M →
            Yb.fldV u p sizes i (K (.ptr g (p ++ [i])))=some r→∃ v,K v=some r∧Zw P o a w B w0 A ρ v h:=fun g p u M hx hb hf=>by
          obtain ⟨sp,v,n1,n2,n3,n4,_⟩:=hb
          rw [hx] at k1
          obtain ⟨q1,q2⟩:=Hj k1 n1 n2
          unfold Yb.fldV at hf
          split at hf
          · rename_i us hus
            cases hcc:Yb.natsEq (Yb.sizesV us) sizes && Nat.blt i sizes.length with
            | false=>rw [hcc] at hf; simp at hf
            | true =>
              rw [hcc] at hf
              simp only [cond_true] at hf
              simp only [Bool.and_eq_true] at hcc
              have he:=Ee hcc.1
              subst he
              obtain ⟨f,n,m1,m2,m3,m4⟩:=Oy _ l.toList 0 i hT (by simpa [Nat.blt_eq] using hcc.2)
              have m1':l[i]?=some f:=by rw [← Array.getElem?_toList]; exact m1
              have happ:=Dd u p [i] (.agv us) hus
              refine ⟨_,hf,fin l f n _ _ _ hu m1' m3 m4 q2 ?_⟩
              have e':sp.off p+f.offset=sp.off (p ++ [i]):=by
                rw [n3,happ.2,m2,Nat.zero_add]; simp only [Wp,Mw]
              rw [e']
              refine AHa n1 n2 ?_
              rw [n4]
              unfold okV
              rw [happ.1]
              simp only [getV,Mp]
              have hlt:i<us.length:=by
                have:=hcc.2
                rw [Nat.blt_eq,Rx] at this
                exact this
              exact ⟨us[i],List.getElem?_eq_getElem hlt⟩
          · cases hf
        split at hg
        · rename_i us hx
          split at hg
          · rename_i u hcc hu'
            have he:=Ee hcc
            subst he
            have hlt:i<us.length:=(List.getElem?_eq_some_iff.1 hu').1
            obtain ⟨f,n,m1,m2,m3,m4⟩:=Oy _ l.toList 0 i hT (by rw [Rx]; exact hlt)
            have m1':l[i]?=some f:=by rw [← Array.getElem?_toList]; exact m1
            rw [hx] at k1
            simp only [Zl] at k1
            obtain ⟨b,k,v,q1,q2,q3,vs,rfl,q4,q5⟩:=k1
            obtain ⟨v',w1,w2⟩:=Zs.getV us q4 q5 (i:=i) (p:=[]) (x:=u) (by rw [Mp]; exact hu')
            refine ⟨_,hg,fin l f n _ _ _ hu m1' m3 m4 q1 ?_⟩
            simp only [Zl]
            refine ⟨b,k+f.offset,v',rfl,q2,?_,w1⟩
            rw [w2,m2,Nat.zero_add,← Mw]
            exact K3 q3 _ _
          · cases hg
        · rename_i g p hx
          have ob:=st.objs g
          split at hg
          · rename_i u hh; rw [hh] at ob; exact boxv g p u _ hx ob hg
          · rename_i u hh; rw [hh] at ob; exact boxv g p u _ hx ob hg
          · cases hg
        · cases hg
      | _=>simp [hu] at hT
end
end Go.Proofs.YtjobjooccgledaaGreatDoor.Ghost
namespace Go.Proofs.YtjobjooccgledaaGreatDoor.Ghost
open Go
section
variable {P:Program} {o:Oper} {a:Act} {w:World} {B:Nat} {w0:Y6} {A:Nat→Prop} {ρ:Xf} {own:Nat→Option Nat} {h:Nat→Obj} {s:Nat→SV}
theorem I0 {R:Type} {n:Int} {m:Nat} {K:Nat→Option R} {r:R} (hg:inB n m K=some r):0≤n∧n<(m:Int)∧K n.toNat=some r:=by
  unfold inB at hg
  split at hg
  · rename_i hn; exact ⟨hn.1,hn.2,hg⟩
  · cases hg
def AQy (P:Program):IT→TypeId→Bool
  | .sl e,t=>Xx P (.sl e) t
  | .arr n e,t=>Xx P (.arr n e) t
  | .slv n,t=>(match P.underlying t with | some (.slice e)=>Jr P e n | _=>false)
def Cs (P:Program) (o:Oper) (t:IT) (x i:Opd):Bool:=match o.op with
  | .indexAddr T y z=>AQy P t T && Xp x y && Xp i z
  | _=>false
theorem Kz {T e:TypeId} {sz b k len cap:Nat} {kd:IntKind} {n:Int} (hu:P.underlying T=some (.slice e)) (hz:Jr P e sz=true) (h0:0≤n) (h1:n<(len:Int)) :
    (Instr.indexAt T (.slice (some ⟨b,k,none⟩) len cap) (.int kd n)).run P w=.ok (.pointer (some ⟨b,k+n.toNat * sz,none⟩)) w:=by
  simp only [Instr.indexAt,asIntOf,Sem.run_bind,Sem.run_pure,Result.andThen_ok,run_underlying hu w,h0,h1,and_self,if_true,J7 hz,Addr.add_mid]
theorem O6 {T e:TypeId} {sz b k len:Nat} {kd:IntKind} {n:Int} (hu:P.underlying T=some (.array len e)) (hz:Jr P e sz=true) (h0:0≤n) (h1:n<(len:Int)) :
    (Instr.indexAt T (.pointer (some ⟨b,k,none⟩)) (.int kd n)).run P w=.ok (.pointer (some ⟨b,k+n.toNat * sz,none⟩)) w:=by
  simp only [Instr.indexAt,asIntOf,Instr.sureAddr,Sem.run_bind,Sem.run_pure,Result.andThen_ok,run_underlying hu w,h0,h1,and_self,if_true,J7 hz,Addr.add_mid]
theorem F1 {e:Ty} {t:TypeId} (hd:Xx P (.sl e) t=true):∃ e',P.underlying t=some (.slice e')∧Xx P e e'=true∧Jr P e' (Zj e)=true∧0<Zj e:=by
  simp only [Xx] at hd
  split at hd
  · rename_i e' he
    simp only [Bool.and_eq_true] at hd
    exact ⟨e',he,hd.1.1,hd.1.2,by simpa [Nat.blt_eq] using hd.2⟩
  · cases hd
theorem Tp {n:Nat} {e:Ty} {t:TypeId} (hd:Xx P (.arr n e) t=true):∃ e',P.underlying t=some (.array n e')∧Xx P e e'=true∧Jr P e' (Zj e)=true∧0<Zj e:=by
  simp only [Xx] at hd
  split at hd
  · rename_i n' e' he
    simp only [Bool.and_eq_true] at hd
    have:=Nat.eq_of_beq_eq_true hd.1.1.1
    subst this
    exact ⟨e',he,hd.1.1.2,hd.1.2,by simpa [Nat.blt_eq] using hd.2⟩
  · cases hd
theorem Ao {z:Nat}:(us:List SV)→(j:Nat)→(∀ u,u∈us→Jb u=z)→j≤us.length→Wj (Yb.sizesV us) j=j * z
  | [],j,_,hj=>by simp at hj; subst hj; simp [Yb.sizesV,Wj]
  | u :: r,0,_,_=>by simp [Yb.sizesV,Wj]
  | u :: r,j+1,h,hj=>by
    simp only [Yb.sizesV,Wj,Ao r j (fun u hu=>h u (by simp [hu])) (by simpa using hj),h u (by simp),Nat.add_mul,Nat.one_mul]
    omega
variable (st:St B w0 A ρ own w h) (hs:Xh A ρ w s a)
include st hs
theorem AGz {t:IT} {x i:Opd} (hc:Cs P o t x i=true) {R:Type} {K:SV→Option R} {r:R} (hg:Uh t h (evO s x) (evO s i) K=some r) :
    ∃ v,K v=some r∧Zw P o a w B w0 A ρ v h:=by
  unfold Cs at hc
  split at hc
  case h_2=>cases hc
  rename_i T y z ho
  simp only [Bool.and_eq_true] at hc
  obtain ⟨⟨hT,hx⟩,hi⟩:=hc
  have k1:=X4 hs hx
  have k2:=X4 hs hi
  have fin:∀ (v':Value) (v:SV),(Instr.indexAt T (a.eval y) (a.eval z)).run P w=.ok v' w→Zl A ρ w v v'→Zw P o a w B w0 A ρ v h:=fun v' v h1 h2 =>
    Zw.pure st (by simp only [execOp,ho,Sem.run_bind,h1,Result.andThen_ok,Sem.run_pure]) h2
  unfold Uh at hg
  split at hg
  case h_2=>cases hg
  rename_i kd n ovi hin
  rw [hin] at k2
  have k2:=Hx k2
  rw [k2] at fin
  cases t with
  | sl σ =>
    simp only [AQy] at hT
    obtain ⟨e',u1,u2,u3,u4⟩:=F1 hT
    simp only [] at hg
    have own:∀ (e:Ty) (l0:List (den e)) (g:Nat) (e1:Ty) (l:List (den e1)) (M:K1→List Value→Prop),evO s x=.dat (.sl e) l0 [([],some g)]→V4 A ρ w g e1 l M →
        (match Kp e1 σ with | some _=>inB n l.length fun j=>K (.elp g j []) | none=>none)=some r→∃ v,K v=some r∧Zw P o a w B w0 A ρ v h:=fun e l0 g e1 l M hx' hb hf=>by
      obtain ⟨sp,n1,n2,n3,n4,n5,n6,n7,n8,n9⟩:=hb
      rw [hx'] at k1
      simp only [Zl,Zm] at k1
      obtain ⟨cs,⟨ad,len,cap,rfl,q2,_⟩,hv⟩:=k1
      obtain ⟨sp',ad',w1,_,w2,w3⟩:=q2 g (by simp)
      rw [n1] at w1
      cases w1
      cases w2
      split at hf
      · rename_i pl _
        have:=pl.down
        subst this
        obtain ⟨i0,i1,i2⟩:=I0 hf
        rw [n7] at i1
        have hcap:0<sp.cap:=by omega
        have:=w3 hcap
        subst this
        refine ⟨_,i2,fin _ _ (by rw [hv]; exact Kz u1 u3 i0 i1) ?_⟩
        simp only [Zl]
        refine ⟨sp,n1,n2,by omega,by rw [n6]; cases e1 <;> trivial,?_⟩
        have h0:Jd e1 []=0:=by cases e1 <;> rfl
        rw [n5,h0,n3,Nat.zero_add,Nat.add_zero]
      · cases hf
    split at hg
    · rename_i e l hx'
      rw [hx'] at k1
      simp only [Zl,Zm] at k1
      obtain ⟨cs,⟨ad,len,cap,rfl,_,q3⟩,hv⟩:=k1
      split at hg
      · rename_i pl _
        have:=pl.down
        subst this
        obtain ⟨i0,i1,i2⟩:=I0 hg
        obtain ⟨q4,q5⟩:=q3 (by simp)
        subst q4
        obtain ⟨b,k,ds,rfl,w1,w2,w3,w4⟩:=q5.2 (by omega)
        refine ⟨_,i2,fin _ _ (by rw [hv]; exact Kz u1 u3 i0 i1) ?_⟩
        simp only [Zl]
        exact ⟨b,_,_,rfl,w1,K3 w2 _ _,w4 n.toNat (by omega)⟩
      · cases hg
    · rename_i e l0 g hx'
      have ob:=st.objs g
      split at hg
      · rename_i e1 l hh; rw [hh] at ob; exact own e l0 g e1 l _ hx' ob hg
      · rename_i e1 l hh; rw [hh] at ob; exact own e l0 g e1 l _ hx' ob hg
      · cases hg
    · cases hg
  | arr M σ =>
    simp only [AQy] at hT
    obtain ⟨e',u1,u2,u3,u4⟩:=Tp hT
    simp only [] at hg
    have box:∀ (g:Nat) (p:Z8) (τ:Ty) (q:den τ) (ov:Ov) (M':K1→List Value→Prop),evO s x=.ptr g p→Tk A ρ w g τ q ov M' →
        Uh.arrAt τ q p M σ n (fun j=>K (.ptr g (p ++ [j])))=some r→∃ v,K v=some r∧Zw P o a w B w0 A ρ v h:=fun g p τ q ov M' hx' hb hf=>by
      obtain ⟨sp,cs,n1,n2,n3,n4,_,_⟩:=hb
      rw [hx'] at k1
      obtain ⟨q1,q2⟩:=Hj k1 n1 n2
      rw [n4] at q1
      unfold Uh.arrAt at hf
      split at hf
      · rename_i N e dx hd'
        split at hf
        · rename_i pl _ hN
          have:=pl.down
          subst this
          have hN:=Nat.eq_of_beq_eq_true hN
          subst hN
          obtain ⟨i0,i1,i2⟩:=I0 hf
          have hlt:n.toNat<N:=by omega
          have h0:Jd e []=0:=by cases e <;> rfl
          have:=Tx τ p [n.toNat] q ⟨.arr N e,dx⟩ q1 hd' ⟨hlt,by cases e <;> trivial⟩
          refine ⟨_,i2,fin _ _ (by rw [q2]; exact O6 u1 u3 i0 i1) ?_⟩
          have e':sp.off p+n.toNat * Zj e=sp.off (p ++ [n.toNat]):=by
            rw [n3,this.2]; simp only [Jd,h0,Nat.add_zero]
          rw [e']
          exact AHa n1 n2 (by rw [n4]; exact this.1)
        · cases hf
      · cases hf
    split at hg
    · rename_i N e l hx'
      split at hg
      · rename_i pl _ hN
        have:=pl.down
        subst this
        have hN:=Nat.eq_of_beq_eq_true hN
        subst hN
        obtain ⟨i0,i1,i2⟩:=I0 hg
        rw [hx'] at k1
        simp only [Zl,Zm] at k1
        obtain ⟨b,k,cs,q1,q2,q3,q4,q5,q6⟩:=k1
        have hlt:n.toNat<N:=by omega
        refine ⟨_,i2,fin _ _ (by rw [q1]; exact O6 u1 u3 i0 i1) ?_⟩
        simp only [Zl]
        exact ⟨b,_,_,rfl,q2,K3 q3 _ _,q6 n.toNat hlt⟩
      · cases hg
    · rename_i g p hx'
      have ob:=st.objs g
      split at hg
      · rename_i τ q ov hh; rw [hh] at ob; exact box g p τ q ov _ hx' ob hg
      · rename_i τ q ov hh; rw [hh] at ob; exact box g p τ q ov _ hx' ob hg
      · cases hg
    · cases hg
  | slv sz =>
    simp only [AQy] at hT
    simp only [] at hg
    cases hu:P.underlying T with
    | none=>simp [hu] at hT
    | some dd =>
      cases dd with
      | slice e' =>
        simp only [hu] at hT
        split at hg
        · rename_i us hx'
          split at hg
          · rename_i j _
            split at hg
            · rename_i u hu'
              split at hg
              · rename_i hsz
                have hsz:=Nat.eq_of_beq_eq_true hsz
                rw [hx'] at k1
                simp only [Zl] at k1
                obtain ⟨ad,len,cap,q1,q2,vs,q3,q4,⟨zz,q5⟩,q6⟩:=k1
                have hlt:j<us.length:=(List.getElem?_eq_some_iff.1 hu').1
                obtain ⟨b,k,rfl,w1,w2⟩:=q6 (by omega)
                have hzz:zz=sz:=by rw [← q5 u (List.mem_of_getElem? hu')]; exact hsz
                subst hzz
                obtain ⟨v',v1,v2⟩:=Zs.getV us q3 q4 (i:=j) (p:=[]) (x:=u) (by rw [Mp]; exact hu')
                refine ⟨_,hg,fin _ _ (by rw [q1]; exact Kz (n:=(j:Int)) hu hT (by omega) (by omega)) ?_⟩
                simp only [Zl]
                refine ⟨b,_,v',rfl,w1,?_,v1⟩
                rw [v2,Mw,Ao us j q5 (by omega)]
                exact K3 w2 _ _
              · cases hg
            · cases hg
          · cases hg
        · cases hg
      | _=>simp [hu] at hT
end
end Go.Proofs.YtjobjooccgledaaGreatDoor.Ghost
