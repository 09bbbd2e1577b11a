/- The ghost semantics, and memory as it has it. Conditions: none. -/
import GoSem.Dispatch
import Derived.Deep.MidRow
import Derived.Below
import Derived.Orders
set_option linter.unusedVariables false
set_option linter.unusedSimpArgs false
set_option linter.unusedSectionVars false
set_option linter.unnecessarySimpa false
namespace Go.Proofs.YtpemapoblhleoaaGreatDoor.Ghost
open Go
inductive Ty where
  | bool | int (k:IntKind) | str
  | sl (e:Ty) | arr (n:Nat) (e:Ty) | st (fs:List Ty)
mutual
@[reducible] def den:Ty→Type
  | .bool=>Bool
  | .int _=>Int
  | .str=>ByteArray
  | .sl e=>List (den e)
  | .arr _ e=>List (den e)
  | .st fs=>Hz fs
@[reducible] def Hz:List Ty→Type
  | []=>Unit
  | t :: r=>den t×Hz r
end
mutual
def dft:(t:Ty)→den t
  | .bool=>false
  | .int _=>(0:Int)
  | .str=>(⟨#[]⟩:ByteArray)
  | .sl _=>[]
  | .arr n e=>List.replicate n (dft e)
  | .st fs=>BDa fs
def BDa:(l:List Ty)→Hz l
  | []=>()
  | t :: r=>(dft t,BDa r)
end
mutual
def Zl:Ty→Nat
  | .st fs=>Uj fs
  | .arr n e=>n * Zl e
  | _=>1
def Uj:List Ty→Nat
  | []=>0
  | t :: r=>Zl t+Uj r
end
structure Dyn where
  τ:Ty
  x:den τ
abbrev Xh:=List Nat
def Ug:(l:List Ty)→Nat→Hz l→Option Dyn
  | [],_,_=>none
  | t :: _,0,x=>some ⟨t,x.1⟩
  | _ :: r,n+1,x=>Ug r n x.2
def getP:Xh→(τ:Ty)→den τ→Option Dyn
  | [],τ,x=>some ⟨τ,x⟩
  | i :: p,.st fs,x=>match Ug fs i x with
    | some d=>getP p d.τ d.x
    | none=>none
  | i :: p,.arr _ e,x=>getP p e (List.getD x i (dft e))
  | _ :: _,_,_=>none
mutual
def Hi:(a b:Ty)→Option (PLift (a=b))
  | .bool,.bool=>some ⟨rfl⟩
  | .int k,.int k'=>if h:k=k' then some ⟨by rw [h]⟩ else none
  | .str,.str=>some ⟨rfl⟩
  | .sl a,.sl b=>match Hi a b with | some ⟨h⟩=>some ⟨by rw [h]⟩ | none=>none
  | .arr n a,.arr m b=>if hn:n=m then match Hi a b with | some ⟨h⟩=>some ⟨by rw [h,hn]⟩ | none=>none else none
  | .st a,.st b=>match AAn a b with | some ⟨h⟩=>some ⟨by rw [h]⟩ | none=>none
  | _,_=>none
def AAn:(a b:List Ty)→Option (PLift (a=b))
  | [],[]=>some ⟨rfl⟩
  | a :: r,b :: s=>match Hi a b with
    | some ⟨h⟩=>match AAn r s with
      | some ⟨h'⟩=>some ⟨by rw [h,h']⟩
      | none=>none
    | none=>none
  | _,_=>none
end
def Vc (a b:Ty) (x:den a):Option (den b):=match Hi a b with
  | some ⟨h⟩=>some (h ▸ x)
  | none=>none
mutual
def Hf:(l:List Ty)→Nat→Xh→Hz l→Dyn→Option (Hz l)
  | [],_,_,_,_=>none
  | t :: _,0,p,x,d=>match setP t p x.1 d with
    | some y=>some (y,x.2)
    | none=>none
  | _ :: r,n+1,p,x,d=>match Hf r n p x.2 d with
    | some y=>some (x.1,y)
    | none=>none
def setP:(t:Ty)→Xh→den t→Dyn→Option (den t)
  | t,[],_,d=>Vc d.τ t d.x
  | .st fs,i :: p,x,d=>Hf fs i p x d
  | .arr _ e,i :: p,x,d=>match setP e p (List.getD x i (dft e)) d with
    | some y=>some (List.set x i y)
    | none=>none
  | _,_ :: _,_,_=>none
end
def Zv:Xh→Xh→Bool
  | [],[]=>true
  | i :: p,j :: q=>Nat.beq i j && Zv p q
  | _,_=>false
inductive SV where
  | dat (τ:Ty) (x:den τ) (ov:List (Xh×Option Nat))
  | ptr (g:Nat) (p:Xh)
  | ref (τ:Ty) (x:den τ)
  | refv (v:SV)
  | selfc (f:FuncId) (caps:List SV)
  | glo (k:Nat)
  | elp (g i:Nat) (p:Xh)
  | clo (f:FuncId) (caps:List SV)
  | tup (vs:List SV)
  | slv (vs:List SV)
  | fmap (ks:List Int) (vs:List SV)
  | agv (vs:List SV)
  | nilfn
  | und
  | junk
inductive Obj where
  | box (τ:Ty) (x:den τ) (ov:List (Xh×Option Nat))
  | boxv (v:SV)
  | fbox (τ:Ty) (x:den τ) (ov:List (Xh×Option Nat))
  | fboxv (v:SV)
  | arr (e:Ty) (l:List (den e))
  | frz (e:Ty) (l:List (den e))
  | map (k v:Ty) (l:List (den k×den v))
  | hid
  | dead
  | none
abbrev Qz:=List Obj
abbrev X0:=List (Nat×SV)
def X2:Qz→Nat→Obj
  | [],_=>.none
  | o :: _,0=>o
  | _ :: r,n+1=>X2 r n
def Pm:Qz→Nat→Obj→Qz
  | [],0,o=>[o]
  | [],n+1,o=>.none :: Pm [] n o
  | _ :: r,0,o=>o :: r
  | x :: r,n+1,o=>x :: Pm r n o
def X7:X0→Nat→SV
  | [],_=>.junk
  | (i,v) :: r,j=>match Nat.beq i j with | true=>v | false=>X7 r j
def L9:X0→Nat→SV→X0
  | [],j,x=>[(j,x)]
  | (i,v) :: r,j,x=>match Nat.beq i j with | true=>(i,x) :: r | false=>(i,v) :: L9 r j x
def E0 (s:X0):Option Nat→SV→X0
  | none,_=>s
  | some d,v=>L9 s d v
def I0 (k:List Nat):X0→X0
  | []=>[]
  | (i,v) :: r=>match k.any (Nat.beq i) with | true=>I0 k r | false=>(i,v) :: I0 k r
def Gp:Xh→Xh→Option Xh
  | [],q=>some q
  | i :: p,j :: q=>match Nat.beq i j with | true=>Gp p q | false=>none
  | _ :: _,[]=>none
def Vk (p:Xh):List (Xh×Option Nat)→List (Xh×Option Nat)
  | []=>[]
  | (q,g) :: r=>match Gp p q with | some q'=>(q',g) :: Vk p r | none=>Vk p r
def Oc (p:Xh):List (Xh×Option Nat)→List (Xh×Option Nat)
  | []=>[]
  | (q,g) :: r=>match Gp p q with | some _=>Oc p r | none=>(q,g) :: Oc p r
def Ce (p:Xh):List (Xh×Option Nat)→List (Xh×Option Nat)
  | []=>[]
  | (q,g) :: r=>(p ++ q,g) :: Ce p r
def ANh:Xh→Xh→Bool
  | [],[]=>false
  | [],_ :: _=>true
  | _ :: _,[]=>false
  | i :: p,j :: q=>Nat.blt i j || Nat.beq i j && ANh p q
def AGv (e:Xh×Option Nat):List (Xh×Option Nat)→List (Xh×Option Nat)
  | []=>[e]
  | x :: r=>match ANh e.1 x.1 with | true=>e :: x :: r | false=>x :: AGv e r
def Li:List (Xh×Option Nat)→List (Xh×Option Nat)→List (Xh×Option Nat)
  | [],ov=>ov
  | e :: r,ov=>Li r (AGv e ov)
def getV:SV→Xh→Option SV
  | v,[]=>some v
  | .agv vs,i :: p=>getVL vs i p
  | _,_ :: _=>none
where getVL:List SV→Nat→Xh→Option SV
  | [],_,_=>none
  | v :: _,0,p=>getV v p
  | _ :: r,n+1,p=>getVL r n p
def resolve (h:Nat→Obj) (τ:Ty) (x:den τ):List (Xh×Option Nat)→Option (den τ)
  | []=>some x
  | (q,some g) :: r=>match h g with
    | .arr e l=>match setP τ q x ⟨.sl e,l⟩ with
      | some y=>resolve h τ y r
      | none=>none
    | .frz e l=>match setP τ q x ⟨.sl e,l⟩ with
      | some y=>resolve h τ y r
      | none=>none
    | _=>none
  | (_,none) :: _=>none
def Fg:den (.arr 11 .str):=[(⟨#[]⟩:ByteArray),(⟨#[109,111,118,101]⟩:ByteArray),(⟨#[112,117,115,104]⟩:ByteArray),(⟨#[103,101,116]⟩:ByteArray),(⟨#[100,114,111,112]⟩:ByteArray),(⟨#[112,117,116]⟩:ByteArray),(⟨#[116,97,107,101]⟩:ByteArray),(⟨#[103,105,118,101]⟩:ByteArray),(⟨#[116,114,97,100,101]⟩:ByteArray),(⟨#[108,111,111,107]⟩:ByteArray),(⟨#[111,119,110]⟩:ByteArray)]
def Ef:den (.arr 4 .str):=[(⟨#[110,111,114,116,104]⟩:ByteArray),(⟨#[101,97,115,116]⟩:ByteArray),(⟨#[115,111,117,116,104]⟩:ByteArray),(⟨#[119,101,115,116]⟩:ByteArray)]
def P3:Nat→Option Dyn:=fun k=>match k with
  | 0=>some ⟨(.arr 11 .str),Fg⟩
  | 1=>some ⟨(.arr 4 .str),Ef⟩
  | _=>none
def AHh {R:Type} (o:Option Dyn) (M:Nat) (σ:Ty) (K:(l:List (den σ))→Option R):Option R:=match o with
  | some ⟨.arr N e,l⟩=>(match Hi e σ,Nat.beq N M with | some ⟨h⟩,true=>K (h ▸ l) | _,_=>none)
  | _=>none
inductive Opd where
  | t (i:Nat)
  | g (k:Nat)
  | c (τ:Ty) (x:den τ)
  | f (f:FuncId)
  | nf
def evO (s:Nat→SV):Opd→SV
  | .t i=>s i
  | .g k=>.glo k
  | .c τ x=>.dat τ x []
  | .f f=>.clo f []
  | .nf=>.nilfn
inductive Sh where
  | d (τ:Ty)
  | ref (τ:Ty)
  | refv (s:Sh)
  | selfc (f:FuncId) (l:List Sh)
  | clo (f:FuncId) (l:List Sh)
  | nilfn
  | agv (l:List Sh)
  | slv (l:List Sh)
  | fmap (ks:List Int) (l:List Sh)
mutual
@[reducible] def dSh:Sh→Type
  | .d τ=>den τ
  | .ref τ=>den τ
  | .refv s=>dSh s
  | .selfc _ l=>Xg l
  | .clo _ l=>Xg l
  | .nilfn=>Unit
  | .agv l=>Xg l
  | .slv l=>Xg l
  | .fmap _ l=>Xg l
@[reducible] def Xg:List Sh→Type
  | []=>Unit
  | s :: r=>dSh s×Xg r
end
mutual
def inj:(s:Sh)→dSh s→SV
  | .d τ,x=>.dat τ x []
  | .ref τ,x=>.ref τ x
  | .refv s,x=>.refv (inj s x)
  | .selfc f l,x=>.selfc f (Hd l x)
  | .clo f l,x=>.clo f (Hd l x)
  | .nilfn,_=>.nilfn
  | .agv l,x=>.agv (Hd l x)
  | .slv l,x=>.slv (Hd l x)
  | .fmap ks l,x=>.fmap ks (Hd l x)
def Hd:(l:List Sh)→Xg l→List SV
  | [],_=>[]
  | s :: r,x=>inj s x.1 :: Hd r x.2
end
def ABj:List Int→List Int→Bool
  | [],[]=>true
  | a :: r,b :: s=>(a == b) && ABj r s
  | _,_=>false
mutual
def prj:(s:Sh)→SV→Option (dSh s)
  | .d τ,.dat σ x []=>Vc σ τ x
  | .ref τ,.ref σ x=>Vc σ τ x
  | .refv s,.refv v=>prj s v
  | .selfc f l,.selfc g vs=>match Nat.beq f g with | true=>Pu l vs | false=>none
  | .clo f l,.clo g vs=>match Nat.beq f g with | true=>Pu l vs | false=>none
  | .nilfn,.nilfn=>some ()
  | .agv l,.agv vs=>Pu l vs
  | .slv l,.slv vs=>Pu l vs
  | .fmap ks l,.fmap ks' vs=>match ABj ks ks' with | true=>Pu l vs | false=>none
  | _,_=>none
def Pu:(l:List Sh)→List SV→Option (Xg l)
  | [],[]=>some ()
  | s :: r,v :: vs=>match prj s v with
    | some x=>match Pu r vs with
      | some y=>some (x,y)
      | none=>none
    | none=>none
  | _,_=>none
end
inductive LT where
  | d (τ:Ty)
  | v (agg:Bool) (n:Nat)
inductive FT where
  | d (τ:Ty)
  | v (sizes:List Nat)
inductive IT where
  | sl (e:Ty)
  | arr (n:Nat) (e:Ty)
  | slv (n:Nat)
inductive GOp where
  | move (x:Opd)
  | mknil (k:Nat) (e:Ty)
  | pick (c a b:Opd)
  | newbox (k:Nat) (τ:Ty) (nils:List (Xh×Nat))
  | newboxv (k:Nat) (z:SV)
  | box (k:Nat) (x:Opd)
  | load (t:LT) (a:Opd)
  | store (t:LT) (a v:Opd)
  | bin (op:BinOp) (x y:Opd)
  | eqs (τ:Ty) (neg:Bool) (x y:Opd)
  | not (x:Opd)
  | neg (x:Opd)
  | conv (k:IntKind) (x:Opd)
  | fieldAddr (t:FT) (j:Nat) (a:Opd)
  | field (τ:Ty) (j:Nat) (a:Opd)
  | index (t:IT) (x i:Opd)
  | len (x:Opd)
  | lens (x:Opd)
  | slicearr (n:Nat) (e:Ty) (x:Opd)
  | max (xs:List Opd)
  | min (xs:List Opd)
  | build (τ:Ty) (parts:List (Nat×Opd)) (nils:List (Xh×Nat))
  | buildv (sizes:List Nat) (parts:List Opd)
  | slice (k:Nat) (e:Ty) (parts:List Opd)
  | slicev (size:Nat) (parts:List Opd)
  | make (k:Nat) (e:Ty) (n:Opd)
  | append (k:Nat) (e:Ty) (x y:Opd)
  | extract (x:Opd) (i:Nat)
  | func (f:FuncId) (caps:List Opd)
  | mkmap (k:Nat) (κ ν:Ty)
  | lookup (κ ν:Ty) (m i:Opd)
  | lookv (m i:Opd) (ok:Bool)
  | slx (e:Ty) (x:Opd) (lo hi:Option Opd)
  | mapset (κ ν:Ty) (m i v:Opd)
  | mapent (κ ν:Ty) (m i:Opd)
  | mapst (κ ν:Ty) (m e v:Opd)
  | call (f:Opd) (args:List Opd) (res:List Sh) (keep:List ((Nat×Xh)×Nat)) (opt:Bool)
  | fail
abbrev Eff:=List (Nat×Obj)
def Om (h:Qz):Eff→Qz
  | []=>h
  | (g,o) :: r=>Om (Pm h g o) r
def AGu {α:Type} (f:α→α→Bool):List α→List α→Bool
  | x :: r,y :: r'=>f x y && AGu f r r'
  | _,_=>true
mutual
def eqT:(t:Ty)→den t→den t→Bool
  | .bool,x,y=>x == y
  | .int _,x,y=>x == y
  | .str,x,y=>x == y
  | .sl _,_,_=>false
  | .arr _ e,x,y=>AGu (eqT e) x y
  | .st fs,x,y=>AD4 fs x y
def AD4:(l:List Ty)→Hz l→Hz l→Bool
  | [],_,_=>true
  | t :: r,x,y=>eqT t x.1 y.1 && AD4 r x.2 y.2
end
mutual
def BAb:Ty→Bool
  | .sl _=>false
  | .arr _ e=>BAb e
  | .st fs=>ATq fs
  | _=>true
def ATq:List Ty→Bool
  | []=>true
  | t :: r=>BAb t && ATq r
end
section
variable {R:Type}
def Bw (op:BinOp) (k:IntKind) (x y:Int) (K:SV→Option R):Option R :=
  match op with
  | .add=>K (.dat (.int k) (k.wrap (x+y)) [])
  | .sub=>K (.dat (.int k) (k.wrap (x - y)) [])
  | .mul=>K (.dat (.int k) (k.wrap (x * y)) [])
  | .rem=>if y=0 then none else K (.dat (.int k) (Int.tmod x y) [])
  | .quo=>if y=0 then none else K (.dat (.int k) (k.wrap (Int.tdiv x y)) [])
  | .eql=>K (.dat .bool (decide (x=y)) [])
  | .neq=>K (.dat .bool (!decide (x=y)) [])
  | .lss=>K (.dat .bool (decide (x<y)) [])
  | .leq=>K (.dat .bool (decide (x≤y)) [])
  | .gtr=>K (.dat .bool (decide (y<x)) [])
  | .geq=>K (.dat .bool (decide (y≤x)) [])
  | _=>none
def AKz (op:BinOp) (a b:SV) (K:SV→Option R):Option R :=
  match a,b with
  | .dat (.int k) x _,.dat (.int k') y _=>if k=k' then Bw op k x y K else none
  | _,_=>none
def AOj (τ:Ty) (neg:Bool) (a b:SV) (K:SV→Option R):Option R :=
  match a,b with
  | .dat σ x [],.dat ρ y []=>match Vc σ τ x,Vc ρ τ y,BAb τ with
    | some x,some y,true=>K (.dat .bool (match neg with | true => !(eqT τ x y) | false=>eqT τ x y) [])
    | _,_,_=>none
  | _,_=>none
def E8 (τ:Ty) (x:den τ) (ov:List (Xh×Option Nat)) (p:Xh) (K:SV→Option R):Option R :=
  match getP p τ x with
  | some d=>K (.dat d.τ d.x (Vk p ov))
  | none=>none
mutual
def J4:SV→Nat
  | .dat τ _ _=>Zl τ
  | .agv vs=>H1 vs
  | _=>1
def H1:List SV→Nat
  | []=>0
  | v :: r=>J4 v+H1 r
end
def G6 (n:Nat):SV→Bool
  | .junk=>false
  | .und=>false
  | .tup _=>false
  | v=>Nat.beq (J4 v) n
def T8:List Nat→List SV→Bool
  | [],[]=>true
  | n :: r,v :: s=>G6 n v && T8 r s
  | _,_=>false
def An (n:Nat):List SV→Bool
  | []=>true
  | v :: s=>G6 n v && An n s
def okL:LT→SV→Bool
  | .d τ,.dat σ _ _=>(match Hi σ τ with | some _=>true | none=>false)
  | .v true n,.agv vs=>Nat.beq (H1 vs) n
  | .v false n,.clo _ _=>Nat.beq n 1
  | .v false n,.nilfn=>Nat.beq n 1
  | _,_=>false
def AB9 (ok:Bool) (v:SV) (b:Bool):SV:=match ok with | true=>.tup [v,.dat .bool b []] | false=>v
def Tl (n:Int):List Int→List SV→(SV→Bool→Option R)→Option R
  | k :: ks,v :: vs,K=>bif decide (n=k) then K v true else Tl n ks vs K
  | _,_,K=>K .nilfn false
def F4 (s:Nat→SV):Option Opd→Int→Option Int
  | none,d=>some d
  | some x,_=>match evO s x with | .dat (.int .i64) n _=>some n | _=>none
def Fc (h:Nat→Obj) (a:SV) (K:SV→Option R):Option R :=
  match a with
  | .ref τ x=>K (.dat τ x [])
  | .refv v=>K v
  | .selfc f vs=>K (.clo f (.selfc f vs :: vs))
  | .glo k=>match P3 k with | some d=>K (.dat d.τ d.x []) | none=>none
  | .ptr g p=>match h g with
    | .box τ x ov=>E8 τ x ov p K
    | .fbox τ x ov=>E8 τ x ov p K
    | .boxv v=>(match getV v p with | some u=>K u | none=>none)
    | .fboxv v=>(match getV v p with | some u=>K u | none=>none)
    | _=>none
  | .elp g i p=>match h g with
    | .arr e l=>E8 e (List.getD l i (dft e)) [] p K
    | .frz e l=>E8 e (List.getD l i (dft e)) [] p K
    | _=>none
  | _=>none
def Fh (t:LT) (h:Nat→Obj) (a:SV) (K:SV→Option R):Option R :=
  Fc h a fun v=>match okL t v with | true=>K v | false=>none
mutual
def F9:SV→SV→Bool
  | .agv vs,.agv us=>F2 vs us
  | .dat τ _ [],.dat σ _ []=>(match Hi τ σ with | some _=>true | none=>false)
  | .nilfn,.nilfn=>true
  | .nilfn,.clo _ _=>true
  | .clo _ _,.nilfn=>true
  | .clo _ _,.clo _ _=>true
  | _,_=>false
def F2:List SV→List SV→Bool
  | [],[]=>true
  | v :: r,u :: s=>F9 v u && F2 r s
  | _,_=>false
end
mutual
def Aa:SV→Bool
  | .nilfn=>true
  | .agv vs=>ADf vs
  | .dat (.int _) x []=>decide (x=(0:Int))
  | .dat .bool x [] => !x
  | _=>false
def ADf:List SV→Bool
  | []=>true
  | v :: r=>Aa v && ADf r
end
def Ow (h:Nat→Obj) (a v:SV) (K:Eff→Option R):Option R :=
  match a with
  | .ptr g p=>match h g with
    | .box τ x ov=>(match v with
      | .dat σ y ov'=>match setP τ p x ⟨σ,y⟩ with
        | some x'=>K [(g,.box τ x' (Li (Ce p ov') (Oc p ov)))]
        | none=>none
      | _=>none)
    | .boxv u=>(match p,F9 u v with | [],true=>K [(g,.boxv v)] | _,_=>none)
    | _=>none
  | .elp g i p=>match h g with
    | .arr e l=>(match v with
      | .dat σ y []=>match setP e p (List.getD l i (dft e)) ⟨σ,y⟩ with
        | some y'=>K [(g,.arr e (List.set l i y'))]
        | none=>none
      | _=>none)
    | _=>none
  | _=>none
def inB (n:Int) (m:Nat) (K:Nat→Option R):Option R:=if 0≤n∧n<(m:Int) then K n.toNat else none
def Yz (h:Nat→Obj) (t:FT) (j:Nat) (a:SV) (K:SV→Option R):Option R :=
  match t with
  | .d σ=>(match σ with
    | .st fs=>bif Nat.blt j fs.length then (match a with
      | .ptr g p=>(match h g with
        | .box τ x _=>fld τ x p σ (K (.ptr g (p ++ [j])))
        | .fbox τ x _=>fld τ x p σ (K (.ptr g (p ++ [j])))
        | _=>none)
      | .elp g i p=>(match h g with
        | .arr e _=>fld e (dft e) p σ (K (.elp g i (p ++ [j])))
        | .frz e _=>fld e (dft e) p σ (K (.elp g i (p ++ [j])))
        | _=>none)
      | .ref τ x=>(match Hi τ σ,getP [j] τ x with | some _,some d=>K (.ref d.τ d.x) | _,_=>none)
      | _=>none) else none
    | _=>none)
  | .v sizes=>(match a with
    | .refv (.agv vs)=>(match natsEq (sizesV vs) sizes,vs[j]? with | true,some v=>K (.refv v) | _,_=>none)
    | .ptr g p=>(match h g with
      | .boxv u=>fldV u p sizes j (K (.ptr g (p ++ [j])))
      | .fboxv u=>fldV u p sizes j (K (.ptr g (p ++ [j])))
      | _=>none)
    | _=>none)
where
  fld (τ:Ty) (x:den τ) (p:Xh) (σ:Ty) (r:Option R):Option R:=match getP p τ x with
    | some d=>(match Hi d.τ σ with | some _=>r | none=>none)
    | none=>none
  sizesV:List SV→List Nat
    | []=>[]
    | v :: r=>J4 v :: sizesV r
  natsEq:List Nat→List Nat→Bool
    | [],[]=>true
    | a :: r,b :: s=>Nat.beq a b && natsEq r s
    | _,_=>false
  fldV (u:SV) (p:Xh) (sizes:List Nat) (j:Nat) (r:Option R):Option R:=match getV u p with
    | some (.agv vs)=>bif natsEq (sizesV vs) sizes && Nat.blt j sizes.length then r else none
    | _=>none
def U5 (t:IT) (h:Nat→Obj) (x i:SV) (K:SV→Option R):Option R :=
  match i with
  | .dat (.int _) n _=>(match t with
    | .sl σ=>(match x with
      | .dat (.sl e) l []=>(match Hi e σ with | some _=>inB n (List.length l) fun j=>K (.ref e (List.getD l j (dft e))) | none=>none)
      | .dat (.sl _) _ [([],some g)]=>(match h g with
        | .arr e l=>(match Hi e σ with | some _=>inB n l.length fun j=>K (.elp g j []) | none=>none)
        | .frz e l=>(match Hi e σ with | some _=>inB n l.length fun j=>K (.elp g j []) | none=>none)
        | _=>none)
      | _=>none)
    | .arr M σ=>(match x with
      | .ref (.arr N e) l=>(match Hi e σ,Nat.beq N M with | some _,true=>inB n N fun j=>K (.ref e (List.getD l j (dft e))) | _,_=>none)
      | .ptr g p=>(match h g with
        | .box τ x _=>arrAt τ x p M σ n fun j=>K (.ptr g (p ++ [j]))
        | .fbox τ x _=>arrAt τ x p M σ n fun j=>K (.ptr g (p ++ [j]))
        | _=>none)
      | _=>none)
    | .slv sz=>(match x with
      | .slv vs=>(match n with
        | .ofNat j=>(match vs[j]? with | some v=>(match Nat.beq (J4 v) sz with | true=>K (.refv v) | false=>none) | none=>none)
        | _=>none)
      | _=>none))
  | _=>none
where
  arrAt (τ:Ty) (x:den τ) (p:Xh) (M:Nat) (σ:Ty) (n:Int) (K:Nat→Option R):Option R:=match getP p τ x with
    | some ⟨.arr N e,_⟩=>(match Hi e σ,Nat.beq N M with | some _,true=>inB n N K | _,_=>none)
    | _=>none
def ACt (h:Nat→Obj) (x:SV) (K:SV→Option R):Option R :=
  match x with
  | .dat (.sl _) l []=>K (.dat (.int .i64) ((List.length l:Nat):Int) [])
  | .dat (.sl _) _ [([],some g)]=>(match h g with
    | .arr _ l=>K (.dat (.int .i64) ((List.length l:Nat):Int) [])
    | .frz _ l=>K (.dat (.int .i64) ((List.length l:Nat):Int) [])
    | _=>none)
  | .slv vs=>K (.dat (.int .i64) ((List.length vs:Nat):Int) [])
  | _=>none
def Rs (τ:Ty) (s:Nat→SV):(x:den τ)→(ov:List (Xh×Option Nat))→List (Nat×Opd)→(SV→Option R)→Option R
  | x,ov,[],K=>K (.dat τ x ov)
  | x,ov,(j,o) :: r,K=>match evO s o with
    | .dat σ y ov'=>match setP τ [j] x ⟨σ,y⟩ with
      | some x'=>Rs τ s x' (Oc [j] ov ++ Ce [j] ov') r K
      | none=>none
    | _=>none
def R7 (τ:Ty) (x:den τ) (h:Nat→Obj):List (Xh×Nat)→Option (List (Xh×Option Nat)×Eff)
  | []=>some ([],[])
  | (p,k) :: r=>match h k,getP p τ x,r.any (fun q=>Nat.beq q.2 k || Zv q.1 p),R7 τ x h r with
    | .none,some ⟨.sl e,_⟩,false,some (ov,es)=>some ((p,some k) :: ov,(k,.arr e []) :: es)
    | _,_,_,_=>none
def Tg (e:Ty) (s:Nat→SV):List Opd→Option (List (den e))
  | []=>some []
  | o :: r=>match evO s o with
    | .dat σ y []=>match Vc σ e y with
      | some z=>match Tg e s r with
        | some zs=>some (z :: zs)
        | none=>none
      | none=>none
    | _=>none
end
mutual
def noSl:Ty→Bool
  | .sl _=>false
  | .arr _ e=>noSl e
  | .st fs=>AIg fs
  | _=>true
def AIg:List Ty→Bool
  | []=>true
  | t :: r=>noSl t && AIg r
end
def Ib:List Sh→Bool
  | []=>true
  | .d τ :: r=>noSl τ && Ib r
  | _ :: _=>false
def Ob:List (Xh×Option Nat)→List Nat
  | []=>[]
  | (_,some g) :: r=>g :: Ob r
  | (_,none) :: r=>Ob r
def Bv (g:Nat):Xh→SV→Option (FuncId×List SV)
  | [],.clo f (.ptr g' [] :: caps)=>match Nat.beq g g' with | true=>some (f,caps) | false=>none
  | _,_=>none
mutual
def Qq (h:Nat→Obj):Nat→SV→Option (SV×List Nat)
  | 0,_=>none
  | n+1,v=>match v with
    | .dat τ x ov=>match resolve h τ x ov with
      | some y=>some (.dat τ y [],Ob ov)
      | none=>none
    | .ptr g p=>match h g with
      | .box τ x ov=>match resolve h τ x ov with
        | some y=>match getP p τ y with
          | some d=>some (.ref d.τ d.x,g :: Ob ov)
          | none=>none
        | none=>none
      | .fbox τ x ov=>match resolve h τ x ov with
        | some y=>match getP p τ y with
          | some d=>some (.ref d.τ d.x,g :: Ob ov)
          | none=>none
        | none=>none
      | .boxv v=>match Bv g p v with
        | some (f,caps)=>match Ww h n caps with
          | some (us,ids)=>some (.selfc f us,g :: ids)
          | none=>none
        | none=>match getV v p with
          | some v=>match Qq h n v with
            | some (u,ids)=>some (.refv u,g :: ids)
            | none=>none
          | none=>none
      | .fboxv v=>match Bv g p v with
        | some (f,caps)=>match Ww h n caps with
          | some (us,ids)=>some (.selfc f us,g :: ids)
          | none=>none
        | none=>match getV v p with
          | some v=>match Qq h n v with
            | some (u,ids)=>some (.refv u,g :: ids)
            | none=>none
          | none=>none
      | _=>none
    | .ref τ x=>some (.ref τ x,[])
    | .refv v=>match Qq h n v with | some (u,ids)=>some (.refv u,ids) | none=>none
    | .selfc f caps=>match Ww h n caps with | some (us,ids)=>some (.selfc f us,ids) | none=>none
    | .clo f caps=>match Ww h n caps with | some (us,ids)=>some (.clo f us,ids) | none=>none
    | .agv vs=>match Ww h n vs with | some (us,ids)=>some (.agv us,ids) | none=>none
    | .slv vs=>match Ww h n vs with | some (us,ids)=>some (.slv us,ids) | none=>none
    | .nilfn=>some (.nilfn,[])
    | _=>none
def Ww (h:Nat→Obj):Nat→List SV→Option (List SV×List Nat)
  | 0,_=>none
  | _+1,[]=>some ([],[])
  | n+1,v :: vs=>match Qq h n v with
    | some (u,ids)=>match Ww h n vs with
      | some (us,ids')=>some (u :: us,ids ++ ids')
      | none=>none
    | none=>none
end
def Q4 (h:Nat→Obj):List Nat→Option Eff
  | []=>some []
  | g :: r=>match h g with
    | .arr e l=>match Q4 h r with | some es=>some ((g,.frz e l) :: es) | none=>none
    | .frz _ _=>Q4 h r
    | .box τ x ov=>match Q4 h r with | some es=>some ((g,.fbox τ x ov) :: es) | none=>none
    | .boxv v=>match Q4 h r with | some es=>some ((g,.fboxv v) :: es) | none=>none
    | .fbox .. => Q4 h r
    | .fboxv _=>Q4 h r
    | _=>none
abbrev Z1:=List (Nat×Xh)
def Zj (fr:Z1) (k:Nat×Xh):Bool:=fr.any fun f=>Nat.beq f.1 k.1 && Zv f.2 k.2
def Zn (fr:Z1):List ((Nat×Xh)×Nat)→Bool
  | []=>true
  | (k,_) :: r=>Zj fr k && !(r.any fun q=>Nat.beq q.1.1 k.1 && Zv q.1.2 k.2) && Zn fr r
def Ra:List SV→List ((Nat×Xh)×Nat)→Option (List SV×Eff)
  | vs,[]=>some (vs,[])
  | vs,((i,p),k) :: r=>match vs[i]? with
    | some (.dat τ x ov)=>match getP p τ x with
      | some ⟨.sl e,l⟩=>match setP τ p x ⟨.sl e,[]⟩ with
        | some x'=>match Ra (vs.set i (.dat τ x' (ov ++ [(p,some k)]))) r with
          | some (us,es)=>some (us,(k,.arr e l) :: es)
          | none=>none
        | none=>none
      | _=>none
    | _=>none
section
variable {R:Type}
def N1:List SV→SV
  | [v]=>v
  | vs=>.tup vs
def Qg (κ ν:Ty) (i:den κ):List (den κ×den ν)→Option (den ν)
  | []=>none
  | (k,v) :: r=>if eqT κ i k then some v else Qg κ ν i r
def Uf (κ ν:Ty) (i:den κ) (x:den ν):List (den κ×den ν)→List (den κ×den ν)
  | []=>[(i,x)]
  | (k,v) :: r=>if eqT κ i k then (i,x) :: r else (k,v) :: Uf κ ν i x r
def Ca (κ ν:Ty) (i:den κ):List (den κ×den ν)→Nat
  | []=>0
  | (k,_) :: r=>if eqT κ i k then 0 else Ca κ ν i r+1
def Pp (κ ν:Ty) (i:den κ) (l:List (den κ×den ν)):List (den κ×den ν):=match Qg κ ν i l with
  | some _=>l
  | none=>l ++ [(i,dft ν)]
def Nq (κ ν:Ty):Nat→den ν→List (den κ×den ν)→List (den κ×den ν)
  | _,_,[]=>[]
  | 0,x,(k,_) :: r=>(k,x) :: r
  | n+1,x,e :: r=>e :: Nq κ ν n x r
def Tk (s:Nat→SV):List Opd→Option (IntKind×List Int)
  | []=>none
  | [o]=>match evO s o with | .dat (.int k) n _=>some (k,[n]) | _=>none
  | o :: r=>match evO s o with
    | .dat (.int k) n _=>match Tk s r with
      | some (k',l)=>if k=k' then some (k,n :: l) else none
      | none=>none
    | _=>none
abbrev Calls:=FuncId→List SV→(res:List Sh)→Option (Xg res×Z1)
def H7 (h:Nat→Obj):List ((Nat×Xh)×Nat)→Bool
  | []=>true
  | (_,k) :: r=>(match h k with | .none=>true | _=>false) && H7 h r && !(r.any fun q=>Nat.beq q.2 k)
def Lu (h:Nat→Obj) (ids:List Nat) (res:List Sh) (x:Xg res) (keep:List ((Nat×Xh)×Nat)) (K:SV→Eff→Option R):Option R :=
  match (match Ib res,keep with | true,[]=>some [] | _,_=>Q4 h ids) with
  | some es=>(match Ra (Hd res x) keep with
    | some (vs,es')=>K (N1 vs) (es ++ es')
    | none=>none)
  | none=>none
def P9 (cf:Calls) (h:Nat→Obj) (f:SV) (args:List SV) (res:List Sh) (keep:List ((Nat×Xh)×Nat)) (opt:Bool) (K:SV→Eff→Option R):Option R :=
  match f with
  | .clo fid caps=>match Ww h 60 (args ++ caps) with
    | some (as,ids)=>(cf fid as res).bind fun r =>
        bif Zn r.2 keep then (bif H7 h keep then Lu h ids res r.1 keep K else none)
        else (match opt with | true=>Lu h ids res r.1 [] K | false=>none)
    | none=>none
  | .refv _=>none
  | _=>none
def gop (cf:Calls) (s:Nat→SV) (h:Nat→Obj) (o:GOp) (K:SV→Eff→Option R):Option R :=
  match o with
  | .move x=>K (evO s x) []
  | .mknil k e=>match h k with
    | .none=>K (.dat (.sl e) [] [([],some k)]) [(k,.arr e [])]
    | _=>none
  | .pick c a b=>match evO s c with
    | .dat .bool t _=>(match evO s a,evO s b with
      | .dat .bool x _,.dat .bool y _=>K (.dat .bool (bif t then x else y) []) []
      | .dat .bool x _,.und=>bif t then K (.dat .bool x []) [] else none
      | .und,.dat .bool y _=>bif t then none else K (.dat .bool y []) []
      | _,_=>none)
    | _=>none
  | .newbox k τ nils=>match h k,R7 τ (dft τ) h nils,nils.any (fun q=>Nat.beq q.2 k) with
    | .none,some (ov,es),false=>K (.ptr k []) ((k,.box τ (dft τ) ov) :: es)
    | _,_,_=>none
  | .newboxv k z=>match h k,Aa z with
    | .none,true=>K (.ptr k []) [(k,.boxv z)]
    | _,_=>none
  | .box k x=>match h k with
    | .none=>(match evO s x with
      | .dat τ x ov=>K (.ptr k []) [(k,.box τ x ov)]
      | .clo f caps=>K (.ptr k []) [(k,.boxv (.clo f caps))]
      | _=>none)
    | _=>none
  | .load t a=>Fh t h (evO s a) fun v=>K v []
  | .store t a v=>(match okL t (evO s v) with | true=>Ow h (evO s a) (evO s v) fun e=>K .junk e | false=>none)
  | .bin op x y=>AKz op (evO s x) (evO s y) fun v=>K v []
  | .eqs τ neg x y=>AOj τ neg (evO s x) (evO s y) fun v=>K v []
  | .not x=>match evO s x with | .dat .bool b _=>K (.dat .bool (!b) []) [] | _=>none
  | .neg x=>match evO s x with | .dat (.int k) n _=>K (.dat (.int k) (k.wrap (0 - n)) []) [] | _=>none
  | .conv k x=>match evO s x with | .dat (.int _) n _=>K (.dat (.int k) (k.wrap n) []) [] | _=>none
  | .fieldAddr t j a=>Yz h t j (evO s a) fun v=>K v []
  | .field τ j a=>match evO s a with
    | .dat σ x ov=>(match Hi σ τ with | some _=>E8 σ x ov [j] fun v=>K v [] | none=>none)
    | _=>none
  | .index t x i=>U5 t h (evO s x) (evO s i) fun v=>K v []
  | .len x=>ACt h (evO s x) fun v=>K v []
  | .lens x=>match evO s x with
    | .dat .str y _=>K (.dat (.int .i64) ((ByteArray.size y:Nat):Int) []) []
    | _=>none
  | .max xs=>match Tk s xs with | some (k,n :: l)=>K (.dat (.int k) (l.foldl (fun a b=>if a<b then b else a) n) []) [] | _=>none
  | .min xs=>match Tk s xs with | some (k,n :: l)=>K (.dat (.int k) (l.foldl (fun a b=>if b<a then b else a) n) []) [] | _=>none
  | .build τ parts nils=>match R7 τ (dft τ) h nils with
    | some (ov,es)=>Rs τ s (dft τ) ov parts fun v=>K v es
    | none=>none
  | .buildv sizes parts=>match T8 sizes (parts.map (evO s)) with | true=>K (.agv (parts.map (evO s))) [] | false=>none
  | .slice k e parts=>match h k,Tg e s parts with
    | .none,some l=>K (.dat (.sl e) [] [([],some k)]) [(k,.arr e l)]
    | _,_=>none
  | .slicev n parts=>match An n (parts.map (evO s)) with | true=>K (.slv (parts.map (evO s))) [] | false=>none
  | .make k e n=>match h k,evO s n with
    | .none,.dat (.int _) n _=>if 0≤n∧n≤1048576 then K (.dat (.sl e) [] [([],some k)]) [(k,.arr e (List.replicate n.toNat (dft e)))] else none
    | _,_=>none
  | .append k e x y=>match evO s x,evO s y,h k with
    | .dat (.sl e0) _ [([],some g)],.dat σ l' ov',.none=>(match h g with
      | .arr e1 l=>(match Hi e0 e,Hi e1 e,resolve h σ l' ov' with
        | some _,some _,some l'=>(match Vc σ (.sl e1) l' with
          | some l'=>if List.length l+List.length l'≤1048576 then K (.dat (.sl e) [] [([],some k)]) [(g,.dead),(k,.arr e1 (l ++ l'))] else none
          | none=>none)
        | _,_,_=>none)
      | _=>none)
    | _,_,_=>none
  | .extract x i=>match evO s x with | .tup vs=>(match vs[i]? with | some v=>K v [] | none=>none) | _=>none
  | .func f caps=>K (.clo f (caps.map (evO s))) []
  | .mkmap k κ ν=>match h k with
    | .none=>K (.ptr k []) [(k,.map κ ν [])]
    | _=>none
  | .lookup κ0 ν0 m i=>match evO s m,evO s i with
    | .ptr g [],.dat σ y []=>(match h g with
      | .map κ ν l=>(match Vc σ κ y,Hi κ κ0,Hi ν ν0 with
        | some i,some _,some _=>K (.dat ν ((Qg κ ν i l).getD (dft ν)) []) []
        | _,_,_=>none)
      | _=>none)
    | _,_=>none
  | .mapset κ0 ν0 m i v=>match evO s m,evO s i,evO s v with
    | .ptr g [],.dat σ y [],.dat ρ z []=>(match h g with
      | .map κ ν l=>(match Vc σ κ y,Vc ρ ν z,Hi κ κ0,Hi ν ν0 with
        | some i,some x,some _,some _=>K .junk [(g,.map κ ν (Uf κ ν i x l))]
        | _,_,_,_=>none)
      | _=>none)
    | _,_,_=>none
  | .mapent κ0 ν0 m i=>match evO s m,evO s i with
    | .ptr g [],.dat σ y []=>(match h g with
      | .map κ ν l=>(match Vc σ κ y,Hi κ κ0,Hi ν ν0 with
        | some i,some _,some _=>K (.tup [.dat ν ((Qg κ ν i l).getD (dft ν)) [],.dat (.int .i64) ((Ca κ ν i l:Nat):Int) []]) [(g,.map κ ν (Pp κ ν i l))]
        | _,_,_=>none)
      | _=>none)
    | _,_=>none
  | .mapst κ0 ν0 m e v=>match evO s m,evO s e,evO s v with
    | .ptr g [],.dat (.int .i64) n _,.dat ρ z []=>(match h g with
      | .map κ ν l=>(match Vc ρ ν z,Hi κ κ0,Hi ν ν0 with
        | some x,some _,some _=>if (0:Int)≤n∧n<((List.length l:Nat):Int) then K .junk [(g,.map κ ν (Nq κ ν (Int.toNat n) x l))] else none
        | _,_,_=>none)
      | _=>none)
    | _,_,_=>none
  | .lookv m i ok=>match evO s m,evO s i with
    | .fmap ks vs,.dat (.int .i64) n []=>Tl n ks vs fun v b=>K (AB9 ok v b) []
    | _,_=>none
  | .slx e x lo hi=>match evO s x with
    | .dat (.sl _) _ [([],some g)]=>(match h g with
      | .frz e1 l=>(match Hi e1 e,F4 s lo 0,F4 s hi ((List.length l:Nat):Int) with
        | some _,some a,some b=>if 0≤a∧a≤b∧b≤((List.length l:Nat):Int) then K (.dat (.sl e1) ((l.take b.toNat).drop a.toNat) []) [] else none
        | _,_,_=>none)
      | _=>none)
    | _=>none
  | .call f args res keep opt=>P9 cf h (evO s f) (args.map (evO s)) res keep opt K
  | .fail=>none
  | .slicearr M σ x=>match evO s x with
    | .glo k=>AHh (P3 k) M σ fun l=>K (.dat (.sl σ) l []) []
    | .ptr g []=>(match h g with
      | .box (.arr N e) l []=>(match Hi e σ,Nat.beq N M with | some _,true=>K (.dat (.sl e) l []) [(g,.dead)] | _,_=>none)
      | _=>none)
    | _=>none
structure Ln where
  d:Option Nat
  op:GOp
  g:Option (Nat×Bool):=none
  rd:List Nat:=[]
  wr:List Nat:=[]
inductive Cd where
  | skip
  | reg (draw:Bool) (l:List Ln)
  | tidy (kill:List Nat) (mv:List (Nat×Nat)) (drop:List Nat) (trunc:Option Nat)
  | frz (ids:List Nat)
  | seq (a b:Cd)
  | cond (c:Opd) (a b:Cd)
  | block (id:Nat) (a:Cd)
  | loop (a:Cd)
  | exit (id:Nat)
  | ret
inductive Ex where
  | norm | exit (id:Nat) | ret
def Ao (ids:List Nat) (h:Nat→Obj):Nat→Obj:=fun g=>match ids.any (Nat.beq g) with | true=>h g | false=>.hid
def ABm (wr:List Nat):Eff→Bool
  | []=>true
  | (g,_) :: r=>wr.any (Nat.beq g) && ABm wr r
def C9 (cf:Calls) (draw:Bool) (l:Ln) (s:X0) (h:Qz) (K:X0→Qz→Option R):Option R :=
  match draw with
  | false=>gop cf (X7 s) (X2 h) l.op fun v e=>K (E0 s l.d v) (Om h e)
  | true=>gop cf (X7 s) (Ao (l.rd ++ l.wr) (X2 h)) l.op fun v e=>match ABm l.wr e with
    | true=>K (E0 s l.d v) (Om h e)
    | false=>none
def Qp (cf:Calls) (draw:Bool):List Ln→X0→Qz→(X0→Qz→Option R)→Option R
  | [],s,h,K=>K s h
  | l :: r,s,h,K=>match l.g with
    | none=>C9 cf draw l s h fun s h=>Qp cf draw r s h K
    | some (j,true)=>(match X7 s j with
      | .dat .bool b []=>bif b then C9 cf draw l (L9 s j (.dat .bool true [])) h fun s h=>Qp cf draw r s h K
          else Qp cf draw r (E0 (L9 s j (.dat .bool false [])) l.d .und) h K
      | .und=>Qp cf draw r (E0 s l.d .und) h K
      | _=>none)
    | some (j,false)=>(match X7 s j with
      | .dat .bool b []=>bif b then Qp cf draw r (E0 (L9 s j (.dat .bool true [])) l.d .und) h K
          else C9 cf draw l (L9 s j (.dat .bool false [])) h fun s h=>Qp cf draw r s h K
      | .und=>Qp cf draw r (E0 s l.d .und) h K
      | _=>none)
def Un (p:Nat→Bool):List (Xh×Option Nat)→Bool
  | []=>true
  | (_,some g) :: r=>p g && Un p r
  | (_,none) :: r=>Un p r
mutual
def U9 (p:Nat→Bool):SV→Bool
  | .dat _ _ ov=>Un p ov
  | .ptr g _=>p g
  | .ref _ _=>true
  | .refv v=>U9 p v
  | .selfc _ caps=>Mg p caps
  | .glo _=>true
  | .elp g _ _=>p g
  | .clo _ caps=>Mg p caps
  | .tup vs=>Mg p vs
  | .slv vs=>Mg p vs
  | .fmap _ vs=>Mg p vs
  | .agv vs=>Mg p vs
  | .nilfn=>true
  | .und=>true
  | .junk=>true
def Mg (p:Nat→Bool):List SV→Bool
  | []=>true
  | v :: r=>U9 p v && Mg p r
end
def AGw (p:Nat→Bool):Obj→Bool
  | .box _ _ ov=>Un p ov
  | .boxv v=>U9 p v
  | .fbox _ _ ov=>Un p ov
  | .fboxv v=>U9 p v
  | _=>true
def Lm (p:Nat→Bool):X0→Bool
  | []=>true
  | (_,v) :: r=>U9 p v && Lm p r
def Lp (p:Nat→Bool):Qz→Bool
  | []=>true
  | o :: r=>AGw p o && Lp p r
def neI (n g:Nat):Bool:=match Nat.beq g n with | true=>false | false=>true
def ltI (n g:Nat):Bool:=Nat.blt g n
def AAz (a b g:Nat):Nat:=match Nat.beq g a with | true=>b | false=>g
def K9 (f:Nat→Nat):List (Xh×Option Nat)→List (Xh×Option Nat)
  | []=>[]
  | (q,some g) :: r=>(q,some (f g)) :: K9 f r
  | (q,none) :: r=>(q,none) :: K9 f r
mutual
def Vv (f:Nat→Nat):SV→SV
  | .dat τ x ov=>.dat τ x (K9 f ov)
  | .ptr g p=>.ptr (f g) p
  | .ref τ x=>.ref τ x
  | .refv v=>.refv (Vv f v)
  | .selfc c caps=>.selfc c (Kv f caps)
  | .glo k=>.glo k
  | .elp g i p=>.elp (f g) i p
  | .clo c caps=>.clo c (Kv f caps)
  | .tup vs=>.tup (Kv f vs)
  | .slv vs=>.slv (Kv f vs)
  | .fmap ks vs=>.fmap ks (Kv f vs)
  | .agv vs=>.agv (Kv f vs)
  | .nilfn=>.nilfn
  | .und=>.und
  | .junk=>.junk
def Kv (f:Nat→Nat):List SV→List SV
  | []=>[]
  | v :: r=>Vv f v :: Kv f r
end
def U4 (f:Nat→Nat):Obj→Obj
  | .box τ x ov=>.box τ x (K9 f ov)
  | .boxv v=>.boxv (Vv f v)
  | .fbox τ x ov=>.fbox τ x (K9 f ov)
  | .fboxv v=>.fboxv (Vv f v)
  | o=>o
def AFl (f:Nat→Nat):X0→X0
  | []=>[]
  | (i,v) :: r=>(i,Vv f v) :: AFl f r
def AM2 (s:X0) (h:Qz) (a b:Nat) (K:X0→Qz→Option R):Option R :=
  match X2 h a with
  | .none=>K s h
  | _=>match Lm (neI b) s && Lp (neI b) h && !(Nat.beq a b) with
  | true=>K (AFl (AAz a b) s) (Pm (Pm (h.map (U4 (AAz a b))) b (X2 (h.map (U4 (AAz a b))) a)) a .none)
  | false=>none
def L6:List (Nat×Nat)→X0→Qz→(X0→Qz→Option R)→Option R
  | [],s,h,K=>K s h
  | (a,b) :: r,s,h,K=>AM2 s h a b fun s h=>L6 r s h K
def Mh:List Nat→X0→Qz→(X0→Qz→Option R)→Option R
  | [],s,h,K=>K s h
  | g :: r,s,h,K=>match X2 h g with
    | .none=>Mh r s h K
    | _=>match Lm (neI g) s && Lp (neI g) h with
      | true=>Mh r s (Pm h g .none) K
      | false=>none
def Ek (n:Option Nat) (s:X0) (h:Qz) (K:X0→Qz→Option R):Option R :=
  match n with
  | none=>K s h
  | some n=>match Lm (ltI n) s && Lp (ltI n) (h.take n) with
    | true=>K s (h.take n)
    | false=>none
abbrev Kt (R:Type):=Ex→X0→Qz→Option R
def Lt (body:Kt R→Kt R→X0→Qz→Option R):Nat→Kt R→X0→Qz→Option R
  | 0,_,_,_=>none
  | m+1,K,s,h=>body (fun _ s h=>Lt body m K s h) K s h
def Qj (run:Cd→Kt R→Kt R→X0→Qz→Option R) (b:Cd) (Kn K:Kt R):Kt R:=fun _ s h=>run b Kn K s h
def Qs (id:Nat) (Kn K:Kt R):Kt R:=fun ex s h=>match ex with
  | .exit i=>(match Nat.beq i id with | true=>Kn .norm s h | false=>K (.exit i) s h)
  | ex=>K ex s h
def run (cf:Calls) (lp:Nat):Cd→Kt R→Kt R→X0→Qz→Option R
  | .skip,Kn,_,s,h=>Kn .norm s h
  | .reg draw l,Kn,_,s,h=>Qp cf draw l s h fun s h=>Kn .norm s h
  | .tidy kill mv dr tr,Kn,_,s,h=>L6 mv (I0 kill s) h fun s h=>Mh dr s h fun s h=>Ek tr s h fun s h=>Kn .norm s h
  | .frz ids,Kn,_,s,h=>match Q4 (X2 h) ids with
    | some es=>Kn .norm s (Om h es)
    | none=>none
  | .seq a b,Kn,K,s,h=>run cf lp a (fun _ s h=>run cf lp b Kn K s h) K s h
  | .cond c a b,Kn,K,s,h=>match evO (X7 s) c with
    | .dat .bool t _=>bif t then run cf lp a Kn K s h else run cf lp b Kn K s h
    | _=>none
  | .block id a,Kn,K,s,h=>run cf lp a Kn (Qs id Kn K) s h
  | .loop a,_,K,s,h=>Lt (fun Kn K s h=>run cf lp a Kn K s h) lp K s h
  | .exit id,_,K,s,h=>K (.exit id) s h
  | .ret,_,K,s,h=>K .ret s h
inductive RV where
  | tmp (t:Nat)
  | cell (t:Nat) (l:LT)
structure Fn where
  np:Nat
  res:List RV
  body:Cd
def P0:Nat→List SV→X0
  | _,[]=>[]
  | i,v :: r=>(i,v) :: P0 (i+1) r
def Ky:Xh→Ty→Bool
  | [],.sl _=>true
  | i :: p,.st fs=>(match fs[i]? with | some t=>Ky p t | none=>false)
  | _,_=>false
def Nx (τ:Ty):List (Xh×Option Nat)→Bool
  | []=>true
  | (q,_) :: r=>Ky q τ && !(r.any fun e=>Zv e.1 q) && Nx τ r
def Gd (s:Nat→SV) (h:Nat→Obj):RV→Option (SV×List (Xh×Nat)×List Nat)
  | .tmp t=>resFin h (s t)
  | .cell t l=>Fh l h (s t) fun v=>resFin h v
where
  resFin (h:Nat→Obj) (v:SV):Option (SV×List (Xh×Nat)×List Nat):=match v with
    | .dat τ x ov=>match resolve h τ x ov with
      | some y=>(match Nx τ ov with | true=>some (.dat τ y [],ovOwn h ov,[]) | false=>some (.dat τ y [],[],Ob ov))
      | none=>none
    | v=>match Qq h 60 v with | some (u,ids)=>some (u,[],ids) | none=>none
  ovOwn (h:Nat→Obj):List (Xh×Option Nat)→List (Xh×Nat)
    | []=>[]
    | (q,some g) :: r=>(match h g with | .arr _ _=>(q,g) :: ovOwn h r | _=>ovOwn h r)
    | (_,none) :: r=>ovOwn h r
def resAll (s:Nat→SV) (h:Nat→Obj):Nat→List RV→Option (List SV×List ((Nat×Xh)×Nat)×List Nat)
  | _,[]=>some ([],[],[])
  | i,r :: rs=>match Gd s h r with
    | some (v,o,l)=>match resAll s h (i+1) rs with
      | some (vs,os,ls)=>some (v :: vs,o.map (fun q=>((i,q.1),q.2)) ++ os,l ++ ls)
      | none=>none
    | none=>none
def Oa:List ((Nat×Xh)×Nat)→Bool
  | []=>true
  | (_,g) :: r => !(r.any fun q=>Nat.beq q.2 g) && Oa r
def Tv:List ((Nat×Xh)×Nat)→Bool
  | []=>true
  | (k,_) :: r => !(r.any fun q=>Nat.beq q.1.1 k.1 && Zv q.1.2 k.2) && Tv r
def Oy (o:List ((Nat×Xh)×Nat)) (l:List Nat):Z1:=match Oa o && Tv o && o.all (fun q => !(l.any (Nat.beq q.2))) with
  | true=>o.map (·.1)
  | false=>[]
def Xe (fn:Fn) (res:List Sh):Kt (Xg res×Z1):=fun ex s h =>
  match ex with
  | .exit _=>none
  | _=>match resAll (X7 s) (X2 h) 0 fn.res with
  | some (vs,o,l)=>match Pu res vs with
    | some x=>some (x,Oy o l)
    | none=>none
  | none=>none
def Ho (prog:FuncId→Option Fn) (sp:Calls):Nat→Calls
  | 0,_,_,_=>none
  | n+1,f,as,res=>match prog f with
    | some fn=>match Nat.beq as.length fn.np with
      | true=>run (Ho prog sp n) n fn.body (Xe fn res) (Xe fn res) (P0 0 as) []
      | false=>none
    | none=>sp f as res
end
end Go.Proofs.YtpemapoblhleoaaGreatDoor.Ghost
namespace Go.Proofs.YtpemapoblhleoaaGreatDoor.Ghost
open Go
mutual
def J6:Ty→Xh→Nat
  | .st fs,i :: p=>Ue fs i p
  | .arr _ e,i :: p=>i * Zl e+J6 e p
  | _,_=>0
def Ue:List Ty→Nat→Xh→Nat
  | [],_,_=>0
  | t :: _,0,p=>J6 t p
  | t :: r,n+1,p=>Zl t+Ue r n p
end
mutual
def okP:Ty→Xh→Prop
  | _,[]=>True
  | .st fs,i :: p=>okF fs i p
  | .arr n e,i :: p=>i<n∧okP e p
  | _,_=>False
def okF:List Ty→Nat→Xh→Prop
  | [],_,_=>False
  | t :: _,0,p=>okP t p
  | _ :: r,n+1,p=>okF r n p
end
structure Hv where
  b:Nat
  len:Nat
  cap:Nat
  es:Nat
  mp:Bool
  off:Xh→Nat
  ok:Xh→Prop
abbrev Xo:=Nat→Option Hv
abbrev Ov:=List (Xh×Option Nat)
def Rg (ρ:Xo) (g:Nat) (v:Value):Prop :=
  ∃ s a,ρ g=some s∧s.mp=false∧v=.slice a s.len s.cap∧(0<s.cap→a=some ⟨s.b,0,none⟩)
mutual
def Zp (A:Nat→Prop) (ρ:Xo) (w:World):(τ:Ty)→den τ→Ov→List Value→Prop
  | .bool,x,_,cs=>cs=[.bool x]
  | .int k,x,_,cs=>cs=[.int k x]
  | .str,x,_,cs=>cs=[.string x]
  | .sl e,l,ov,cs=>∃ a n c,cs=[.slice a n c]∧(∀ g,([],some g)∈ov→Rg ρ g (.slice a n c)) ∧
      ((∀ o,([],o) ∉ ov)→n=List.length l∧(0<n→∃ b o ds,a=some ⟨b,o,none⟩∧A b∧w.rangeAt b o ds∧ds.length=n * Zl e ∧
        ∀ i,i<n→Zp A ρ w e (List.getD l i (dft e)) [] ((ds.drop (i * Zl e)).take (Zl e))))
  | .arr n e,l,ov,cs=>List.length l=n∧cs.length=n * Zl e ∧
      ∀ i,i<n→Zp A ρ w e (List.getD l i (dft e)) (Vk [i] ov) ((cs.drop (i * Zl e)).take (Zl e))
  | .st fs,x,ov,cs=>Xw A ρ w fs 0 x ov cs
def Xw (A:Nat→Prop) (ρ:Xo) (w:World):(fs:List Ty)→Nat→Hz fs→Ov→List Value→Prop
  | [],_,_,_,cs=>cs=[]
  | t :: r,j,x,ov,cs=>Zp A ρ w t x.1 (Vk [j] ov) (cs.take (Zl t))∧Xw A ρ w r (j+1) x.2 ov (cs.drop (Zl t))
end
mutual
theorem Zp.length {A:Nat→Prop} {ρ:Xo} {w:World}:(τ:Ty)→{x:den τ}→{ov:Ov}→{cs:List Value}→Zp A ρ w τ x ov cs→cs.length=Zl τ
  | .bool,_,_,_,h=>by simp only [Zp] at h; subst h; rfl
  | .int _,_,_,_,h=>by simp only [Zp] at h; subst h; rfl
  | .str,_,_,_,h=>by simp only [Zp] at h; subst h; rfl
  | .sl _,_,_,_,h=>by simp only [Zp] at h; obtain ⟨_,_,_,rfl,_⟩:=h; rfl
  | .arr n e,_,_,_,h=>by simp only [Zp] at h; simpa only [Zl] using h.2.1
  | .st fs,_,_,_,h=>by simp only [Zp] at h; simpa only [Zl] using Xw.length fs h
theorem Xw.length {A:Nat→Prop} {ρ:Xo} {w:World}:(fs:List Ty)→{j:Nat}→{x:Hz fs}→{ov:Ov}→{cs:List Value}→Xw A ρ w fs j x ov cs→cs.length=Uj fs
  | [],_,_,_,_,h=>by simp only [Xw] at h; subst h; rfl
  | t :: r,_,_,_,_,h=>by
    simp only [Xw] at h
    have h1:=Zp.length t h.1
    have h2:=Xw.length r h.2
    simp only [List.length_take,List.length_drop] at h1 h2
    simp only [Uj]
    omega
end
mutual
theorem Zp.mono {A A':Nat→Prop} {ρ ρ':Xo} {w w':World} (hA:∀ b,A b→A' b) (hρ:∀ g s,ρ g=some s→ρ' g=some s)
    (hw:∀ b,A b→w'.heap[b]?=w.heap[b]?):(τ:Ty)→{x:den τ}→{ov:Ov}→{cs:List Value}→Zp A ρ w τ x ov cs→Zp A' ρ' w' τ x ov cs
  | .bool,_,_,_,h=>by simpa only [Zp] using h
  | .int _,_,_,_,h=>by simpa only [Zp] using h
  | .str,_,_,_,h=>by simpa only [Zp] using h
  | .sl e,_,_,_,h=>by
    simp only [Zp] at h ⊢
    obtain ⟨a,n,c,h1,h2,h3⟩:=h
    refine ⟨a,n,c,h1,fun g hg => ?_,fun hn=>⟨(h3 hn).1,fun hp => ?_⟩⟩
    · obtain ⟨s,ad,k1,k2⟩:=h2 g hg
      exact ⟨s,ad,hρ _ _ k1,k2⟩
    · obtain ⟨b,o,ds,k1,k2,k3,k4,k5⟩:=(h3 hn).2 hp
      refine ⟨b,o,ds,k1,hA b k2,fun j v hv => ?_,k4,fun i hi=>Zp.mono hA hρ hw e (k5 i hi)⟩
      have:=k3 j v hv
      unfold World.cell? at this ⊢
      simp only [hw b k2]
      exact this
  | .arr n e,_,_,_,h=>by
    simp only [Zp] at h ⊢
    exact ⟨h.1,h.2.1,fun i hi=>Zp.mono hA hρ hw e (h.2.2 i hi)⟩
  | .st fs,_,_,_,h=>by simp only [Zp] at h ⊢; exact Xw.mono hA hρ hw fs h
theorem Xw.mono {A A':Nat→Prop} {ρ ρ':Xo} {w w':World} (hA:∀ b,A b→A' b) (hρ:∀ g s,ρ g=some s→ρ' g=some s)
    (hw:∀ b,A b→w'.heap[b]?=w.heap[b]?):(fs:List Ty)→{j:Nat}→{x:Hz fs}→{ov:Ov}→{cs:List Value}→Xw A ρ w fs j x ov cs→Xw A' ρ' w' fs j x ov cs
  | [],_,_,_,_,h=>by simpa only [Xw] using h
  | t :: r,_,_,_,_,h=>by
    simp only [Xw] at h ⊢
    exact ⟨Zp.mono hA hρ hw t h.1,Xw.mono hA hρ hw r h.2⟩
end
theorem Q5 {p q:Xh} {o:Option Nat}:{ov:Ov}→((q,o)∈Vk p ov↔(p ++ q,o)∈ov):=by
  have Wb:∀ (p q r:Xh),Gp p q=some r↔q=p ++ r:=by
    intro p
    induction p with
    | nil=>intro q r; simp [Gp,eq_comm]
    | cons i p ih =>
      intro q r
      cases q with
      | nil=>simp [Gp]
      | cons j q =>
        simp only [Gp]
        cases hb:Nat.beq i j with
        | true =>
          have:=Nat.eq_of_beq_eq_true hb
          subst this
          simp [ih]
        | false =>
          have:i≠j:=fun e=>by subst e; simp [Nat.beq_refl] at hb
          simp [Ne.symm this]
  intro ov
  induction ov with
  | nil=>simp [Vk]
  | cons e r ih =>
    obtain ⟨q',o'⟩:=e
    simp only [Vk]
    cases hs:Gp p q' with
    | none =>
      simp only [List.mem_cons,Prod.mk.injEq]
      rw [ih]
      constructor
      · exact .inr
      · rintro (⟨h,_⟩ | h)
        · rw [(Wb p q' q).2 h.symm] at hs; cases hs
        · exact h
    | some q'' =>
      have:=(Wb p q' q'').1 hs
      subst this
      simp only [List.mem_cons,Prod.mk.injEq,ih,List.append_cancel_left_eq]
theorem Cf {ov ov':Ov} (h:∀ e,e∈ov↔e∈ov') (p:Xh):∀ e,e∈Vk p ov↔e∈Vk p ov':=fun ⟨q,o⟩=>by
  rw [Q5,Q5]; exact h _
mutual
theorem Zp.ov {A:Nat→Prop} {ρ:Xo} {w:World}:(τ:Ty)→{x:den τ}→{ov ov':Ov}→{cs:List Value}→(∀ e,e∈ov↔e∈ov')→Zp A ρ w τ x ov cs→Zp A ρ w τ x ov' cs
  | .bool,_,_,_,_,_,h=>by simpa only [Zp] using h
  | .int _,_,_,_,_,_,h=>by simpa only [Zp] using h
  | .str,_,_,_,_,_,h=>by simpa only [Zp] using h
  | .sl e,_,_,_,_,he,h=>by
    simp only [Zp] at h ⊢
    obtain ⟨a,n,c,h1,h2,h3⟩:=h
    exact ⟨a,n,c,h1,fun g hg=>h2 g ((he _).2 hg),fun hn=>h3 (fun o ho=>hn o ((he _).1 ho))⟩
  | .arr n e,_,_,_,_,he,h=>by
    simp only [Zp] at h ⊢
    exact ⟨h.1,h.2.1,fun i hi=>Zp.ov e (Cf he _) (h.2.2 i hi)⟩
  | .st fs,_,_,_,_,he,h=>by simp only [Zp] at h ⊢; exact Xw.ov fs he h
theorem Xw.ov {A:Nat→Prop} {ρ:Xo} {w:World}:(fs:List Ty)→{j:Nat}→{x:Hz fs}→{ov ov':Ov}→{cs:List Value}→(∀ e,e∈ov↔e∈ov')→Xw A ρ w fs j x ov cs→Xw A ρ w fs j x ov' cs
  | [],_,_,_,_,_,_,h=>by simpa only [Xw] using h
  | t :: r,_,_,_,_,_,he,h=>by
    simp only [Xw] at h ⊢
    exact ⟨Zp.ov t (Cf he _) h.1,Xw.ov r he h.2⟩
end
theorem Cj (p q:Xh) (ov:Ov):∀ e,e∈Vk q (Vk p ov)↔e∈Vk (p ++ q) ov:=fun ⟨r,o⟩=>by
  rw [Q5,Q5,Q5,List.append_assoc]
def cut (cs:List Value) (o n:Nat):List Value:=(cs.drop o).take n
theorem Of (cs:List Value) (o n o' n':Nat) (h:o'+n'≤n):cut (cut cs o n) o' n'=cut cs (o+o') n':=by
  unfold cut
  rw [List.drop_take,List.drop_drop,List.take_take,Nat.min_eq_left (by omega)]
theorem Mb (cs:List Value) (n:Nat):cut cs 0 n=cs.take n:=rfl
theorem AI0 (cs:List Value) (n:Nat) (h:cs.length=n):cut cs 0 n=cs:=by subst h; simp [cut]
mutual
theorem O7:(τ:Ty)→(p:Xh)→(x:den τ)→(d:Dyn)→okP τ p→getP p τ x=some d→J6 τ p+Zl d.τ≤Zl τ
  | τ,[],x,d,_,h=>by
    have:d=⟨τ,x⟩:=by cases τ <;> simpa [getP,eq_comm] using h
    subst this
    cases τ <;> simp [J6]
  | .st fs,i :: p,x,d,hk,h=>by
    simp only [J6,Zl]
    simp only [okP] at hk
    simp only [getP] at h
    exact AIl fs i p x d hk h
  | .arr n e,i :: p,x,d,hk,h=>by
    simp only [J6,Zl]
    simp only [okP] at hk
    simp only [getP] at h
    have h1:=O7 e p _ d hk.2 h
    have:(i+1) * Zl e≤n * Zl e:=Nat.mul_le_mul_right _ hk.1
    rw [Nat.add_mul,Nat.one_mul] at this
    omega
  | .bool,_ :: _,_,_,hk,_=>by simp [okP] at hk
  | .int _,_ :: _,_,_,hk,_=>by simp [okP] at hk
  | .str,_ :: _,_,_,hk,_=>by simp [okP] at hk
  | .sl _,_ :: _,_,_,hk,_=>by simp [okP] at hk
theorem AIl:(fs:List Ty)→(i:Nat)→(p:Xh)→(x:Hz fs)→(d:Dyn)→okF fs i p →
    (match Ug fs i x with | some d=>getP p d.τ d.x | none=>none)=some d→Ue fs i p+Zl d.τ≤Uj fs
  | [],_,_,_,_,hk,_=>by simp [okF] at hk
  | t :: r,0,p,x,d,hk,h=>by
    simp only [okF] at hk
    simp only [Ug] at h
    have:=O7 t p x.1 d hk h
    simp only [Ue,Uj]
    omega
  | t :: r,n+1,p,x,d,hk,h=>by
    simp only [okF] at hk
    simp only [Ug] at h
    have:=AIl r n p x.2 d hk h
    simp only [Ue,Uj]
    omega
end
mutual
theorem Zp.getP {A:Nat→Prop} {ρ:Xo} {w:World}:(τ:Ty)→(p:Xh)→{x:den τ}→{ov:Ov}→{cs:List Value}→{d:Dyn}→Zp A ρ w τ x ov cs→okP τ p →
    getP p τ x=some d→Zp A ρ w d.τ d.x (Vk p ov) (cut cs (J6 τ p) (Zl d.τ))
  | τ,[],x,ov,cs,d,h,_,hg=>by
    have:d=⟨τ,x⟩:=by cases τ <;> simpa [Ghost.getP,eq_comm] using hg
    subst this
    have h0:J6 τ []=0:=by cases τ <;> rfl
    rw [h0,AI0 _ _ (Zp.length τ h)]
    exact Zp.ov τ (fun ⟨q,o⟩=>by rw [Q5]; rfl) h
  | .st fs,i :: p,x,ov,cs,d,h,hk,hg=>by
    simp only [Zp] at h
    simp only [okP] at hk
    simp only [Ghost.getP] at hg
    simp only [J6]
    have:=Xw.getP fs 0 i p h hk hg
    simpa only [Nat.zero_add] using this
  | .arr n e,i :: p,x,ov,cs,d,h,hk,hg=>by
    simp only [Zp] at h
    simp only [okP] at hk
    simp only [Ghost.getP] at hg
    simp only [J6]
    have h1:=Zp.getP e p (h.2.2 i hk.1) hk.2 hg
    have h2:=O7 e p _ d hk.2 hg
    rw [show (List.drop (i * Zl e) cs).take (Zl e)=cut cs (i * Zl e) (Zl e) from rfl,Of _ _ _ _ _ h2] at h1
    exact Zp.ov d.τ (Cj [i] p ov) h1
  | .bool,_ :: _,_,_,_,_,_,hk,_=>by simp [okP] at hk
  | .int _,_ :: _,_,_,_,_,_,hk,_=>by simp [okP] at hk
  | .str,_ :: _,_,_,_,_,_,hk,_=>by simp [okP] at hk
  | .sl _,_ :: _,_,_,_,_,_,hk,_=>by simp [okP] at hk
theorem Xw.getP {A:Nat→Prop} {ρ:Xo} {w:World}:(fs:List Ty)→(j i:Nat)→(p:Xh)→{x:Hz fs}→{ov:Ov}→{cs:List Value}→{d:Dyn}→Xw A ρ w fs j x ov cs→okF fs i p →
    (match Ug fs i x with | some d=>Ghost.getP p d.τ d.x | none=>none)=some d→Zp A ρ w d.τ d.x (Vk ((j+i) :: p) ov) (cut cs (Ue fs i p) (Zl d.τ))
  | [],_,_,_,_,_,_,_,_,hk,_=>by simp [okF] at hk
  | t :: r,j,0,p,x,ov,cs,d,h,hk,hg=>by
    simp only [Xw] at h
    simp only [okF] at hk
    simp only [Ug] at hg
    simp only [Ue]
    have h1:=Zp.getP t p h.1 hk hg
    have h2:=O7 t p _ d hk hg
    rw [← Mb,Of _ _ _ _ _ h2,Nat.zero_add] at h1
    exact Zp.ov d.τ (Cj [j] p ov) h1
  | t :: r,j,n+1,p,x,ov,cs,d,h,hk,hg=>by
    simp only [Xw] at h
    simp only [okF] at hk
    simp only [Ug] at hg
    simp only [Ue]
    have h1:=Xw.getP r (j+1) n p h.2 hk hg
    have:cut (List.drop (Zl t) cs) (Ue r n p) (Zl d.τ)=cut cs (Zl t+Ue r n p) (Zl d.τ):=by
      unfold cut; rw [List.drop_drop]
    rw [this] at h1
    rw [show j+(n+1)=j+1+n by omega]
    exact h1
end
end Go.Proofs.YtpemapoblhleoaaGreatDoor.Ghost
namespace Go.Proofs.YtpemapoblhleoaaGreatDoor.Ghost
open Go
def Kf (cs:List Value) (o:Nat) (ds:List Value):List Value:=cs.take o ++ ds ++ cs.drop (o+ds.length)
theorem Vr {cs:List Value} {o:Nat} {ds:List Value} (h:o+ds.length≤cs.length):(Kf cs o ds).length=cs.length:=by
  simp only [Kf,List.length_append,List.length_take,List.length_drop]; omega
theorem Jk {cs:List Value} {o:Nat} {ds:List Value} (h:o+ds.length≤cs.length) (k:Nat) :
    (Kf cs o ds)[k]?=if k<o then cs[k]? else if k<o+ds.length then ds[k - o]? else cs[k]?:=by
  simp only [Kf,List.append_assoc]
  by_cases h1:k<o
  · rw [if_pos h1,List.getElem?_append_left (by simp; omega),List.getElem?_take_of_lt h1]
  · rw [if_neg h1,List.getElem?_append_right (by simp; omega)]
    have:(List.take o cs).length=o:=by simp; omega
    rw [this]
    by_cases h2:k<o+ds.length
    · rw [if_pos h2,List.getElem?_append_left (by omega)]
    · rw [if_neg h2,List.getElem?_append_right (by omega),List.getElem?_drop]
      congr 1; omega
theorem Jd {cs:List Value} {o n:Nat} (k:Nat):(cut cs o n)[k]?=if k<n then cs[o+k]? else none:=by
  unfold cut
  by_cases h:k<n
  · rw [if_pos h,List.getElem?_take_of_lt h,List.getElem?_drop]
  · rw [if_neg h,List.getElem?_eq_none]; simp; omega
theorem O8 {cs:List Value} {o n:Nat} (h:o+n≤cs.length):(cut cs o n).length=n:=by
  unfold cut; simp only [List.length_take,List.length_drop]; omega
theorem Wo {cs:List Value} {o n o':Nat} {ds:List Value} (h:o+n≤cs.length) (h':o'+ds.length≤n) :
    cut (Kf cs (o+o') ds) o n=Kf (cut cs o n) o' ds:=by
  refine List.ext_getElem? fun k => ?_
  have hl:(cut cs o n).length=n:=O8 h
  rw [Jd,Jk (by omega),Jk (by omega),Jd]
  by_cases h1:k<n
  · simp only [h1,if_true]
    by_cases h2:k<o'
    · rw [if_pos (by omega),if_pos h2]
    · rw [if_neg (by omega),if_neg h2]
      by_cases h3:k<o'+ds.length
      · rw [if_pos (by omega),if_pos h3]; congr 1; omega
      · rw [if_neg (by omega),if_neg h3]
  · simp only [h1,if_false]
    rw [if_neg (by omega),if_neg (by omega)]
theorem Gi {cs:List Value} {o n o':Nat} {ds:List Value} (h:o'+ds.length≤cs.length) (h':o+n≤o'∨o'+ds.length≤o) :
    cut (Kf cs o' ds) o n=cut cs o n:=by
  refine List.ext_getElem? fun k => ?_
  rw [Jd,Jd,Jk h]
  by_cases h1:k<n
  · simp only [h1,if_true]
    rcases h' with h' | h'
    · rw [if_pos (by omega)]
    · rw [if_neg (by omega),if_neg (by omega)]
  · simp only [h1,if_false]
theorem R6 (cs:List Value) (o:Nat):cs.drop o=cut cs o (cs.length - o):=by
  unfold cut; rw [List.take_of_length_le]; simp
def Wv (p:Xh) (ov ov' ov'':Ov):Prop:=∀ e,e∈ov''↔(e∈ov∧Gp p e.1=none)∨(∃ q,Gp p e.1=some q∧(q,e.2)∈ov')
theorem Wv.nil {ov ov' ov'':Ov} (h:Wv [] ov ov' ov''):∀ e,e∈ov'↔e∈ov'':=fun ⟨q,o⟩=>by
  rw [h (q,o)]; simp [Gp]
theorem Wv.same {i:Nat} {p:Xh} {ov ov' ov'':Ov} (h:Wv (i :: p) ov ov' ov''):Wv p (Vk [i] ov) ov' (Vk [i] ov''):=fun ⟨q,o⟩=>by
  rw [Q5,Q5,h ([i] ++ q,o)]; simp [Gp]
theorem Wv.other {i j:Nat} {p:Xh} {ov ov' ov'':Ov} (h:Wv (i :: p) ov ov' ov'') (hij:j≠i):∀ e,e∈Vk [j] ov↔e∈Vk [j] ov'':=fun ⟨q,o⟩=>by
  have:Nat.beq i j=false:=by
    cases hb:Nat.beq i j with
    | false=>rfl
    | true=>exact absurd (Nat.eq_of_beq_eq_true hb).symm hij
  rw [Q5,Q5,h ([j] ++ q,o)]; simp [Gp,this]
theorem ACb {e x:Xh×Option Nat}:{ov:Ov}→(x∈AGv e ov↔x=e∨x∈ov)
  | []=>by simp [AGv]
  | y :: r=>by
    simp only [AGv]
    split
    · simp
    · simp only [List.mem_cons,ACb (ov:=r)]
      constructor
      · rintro (h | h | h) <;> simp [h]
      · rintro (h | h | h) <;> simp [h]
theorem Mr {x:Xh×Option Nat}:{a b:Ov}→(x∈Li a b↔x∈a∨x∈b)
  | [],_=>by simp [Li]
  | e :: r,b=>by
    simp only [Li,Mr (a:=r),ACb,List.mem_cons]
    constructor
    · rintro (h | h | h) <;> simp [h]
    · rintro ((h | h) | h) <;> simp [h]
theorem M7 {p:Xh} {e:Xh×Option Nat}:{ov:Ov}→(e∈Ce p ov↔∃ q,e.1=p ++ q∧(q,e.2)∈ov)
  | []=>by simp [Ce]
  | (q',o') :: r=>by
    obtain ⟨q,o⟩:=e
    simp only [Ce,List.mem_cons,M7 (ov:=r),Prod.mk.injEq]
    constructor
    · rintro (⟨rfl,rfl⟩ | ⟨q'',h1,h2⟩)
      · exact ⟨q',rfl,.inl ⟨rfl,rfl⟩⟩
      · exact ⟨q'',h1,.inr h2⟩
    · rintro ⟨q'',h1,⟨rfl,rfl⟩ | h2⟩
      · exact .inl ⟨h1,rfl⟩
      · exact .inr ⟨q'',h1,h2⟩
theorem Rp {p:Xh} {e:Xh×Option Nat}:{ov:Ov}→(e∈Oc p ov↔e∈ov∧Gp p e.1=none)
  | []=>by simp [Oc]
  | (q',o') :: r=>by
    obtain ⟨q,o⟩:=e
    simp only [Oc]
    cases hs:Gp p q' with
    | none =>
      simp only [List.mem_cons,Rp (ov:=r),Prod.mk.injEq]
      constructor
      · rintro (⟨rfl,rfl⟩ | h)
        · exact ⟨.inl ⟨rfl,rfl⟩,hs⟩
        · exact ⟨.inr h.1,h.2⟩
      · rintro ⟨⟨rfl,rfl⟩ | h,h'⟩
        · exact .inl ⟨rfl,rfl⟩
        · exact .inr ⟨h,h'⟩
    | some q'' =>
      simp only [List.mem_cons,Rp (ov:=r),Prod.mk.injEq]
      constructor
      · rintro ⟨h,h'⟩; exact ⟨.inr h,h'⟩
      · rintro ⟨⟨rfl,rfl⟩ | h,h'⟩
        · rw [hs] at h'; cases h'
        · exact ⟨h,h'⟩
theorem Wb {p q r:Xh}:Gp p q=some r↔q=p ++ r:=by
  induction p generalizing q r with
  | nil=>simp [Gp]
  | cons i p ih =>
    cases q with
    | nil=>simp [Gp]
    | cons j q =>
      simp only [Gp]
      cases hb:Nat.beq i j with
      | true =>
        have:=Nat.eq_of_beq_eq_true hb
        subst this
        simp [ih]
      | false =>
        have:i≠j:=fun e=>by subst e; simp [Nat.beq_refl] at hb
        simp [Ne.symm this]
theorem Wv.merge (p:Xh) (ov ov':Ov):Wv p ov ov' (Li (Ce p ov') (Oc p ov)):=fun e=>by
  rw [Mr,M7,Rp]
  constructor
  · rintro (⟨q,h1,h2⟩ | h)
    · exact .inr ⟨q,Wb.2 h1,h2⟩
    · exact .inl h
  · rintro (h | ⟨q,h1,h2⟩)
    · exact .inr h
    · exact .inl ⟨q,Wb.1 h1,h2⟩
theorem Y7 {a b:Ty} {x:den a} {y:den b} (h:Vc a b x=some y):(⟨a,x⟩:Dyn)=⟨b,y⟩:=by
  unfold Vc at h
  split at h
  · rename_i e _
    subst e
    simp at h
    subst h; rfl
  · cases h
mutual
theorem We:(τ:Ty)→(p:Xh)→(x x':den τ)→(d:Dyn)→okP τ p→setP τ p x d=some x'→J6 τ p+Zl d.τ≤Zl τ
  | τ,[],x,x',d,_,h=>by
    have hc:Vc d.τ τ d.x=some x':=by cases τ <;> simpa only [setP] using h
    have:=Y7 hc
    obtain ⟨σ,y⟩:=d
    cases this
    show J6 σ []+Zl σ≤Zl σ
    cases σ <;> simp [J6]
  | .st fs,i :: p,x,x',d,hk,h=>by
    simp only [J6,Zl]
    simp only [okP] at hk
    simp only [setP] at h
    exact Da fs i p x x' d hk h
  | .arr n e,i :: p,x,x',d,hk,h=>by
    simp only [J6,Zl]
    simp only [okP] at hk
    simp only [setP] at h
    cases hs:setP e p (List.getD x i (dft e)) d with
    | none=>rw [hs] at h; cases h
    | some y =>
      have h1:=We e p _ _ d hk.2 hs
      have:(i+1) * Zl e≤n * Zl e:=Nat.mul_le_mul_right _ hk.1
      rw [Nat.add_mul,Nat.one_mul] at this
      omega
  | .bool,_ :: _,_,_,_,hk,_=>by simp [okP] at hk
  | .int _,_ :: _,_,_,_,hk,_=>by simp [okP] at hk
  | .str,_ :: _,_,_,_,hk,_=>by simp [okP] at hk
  | .sl _,_ :: _,_,_,_,hk,_=>by simp [okP] at hk
theorem Da:(fs:List Ty)→(i:Nat)→(p:Xh)→(x x':Hz fs)→(d:Dyn)→okF fs i p →
    Hf fs i p x d=some x'→Ue fs i p+Zl d.τ≤Uj fs
  | [],_,_,_,_,_,hk,_=>by simp [okF] at hk
  | t :: r,0,p,x,x',d,hk,h=>by
    simp only [okF] at hk
    simp only [Hf] at h
    cases hs:setP t p x.1 d with
    | none=>rw [hs] at h; cases h
    | some y =>
      have:=We t p x.1 y d hk hs
      simp only [Ue,Uj]
      omega
  | t :: r,n+1,p,x,x',d,hk,h=>by
    simp only [okF] at hk
    simp only [Hf] at h
    cases hs:Hf r n p x.2 d with
    | none=>rw [hs] at h; cases h
    | some y =>
      have:=Da r n p x.2 y d hk hs
      simp only [Ue,Uj]
      omega
end
mutual
theorem Zp.setP {A:Nat→Prop} {ρ:Xo} {w:World}:(τ:Ty)→(p:Xh)→{x x':den τ}→{ov ov' ov'':Ov}→{cs ds:List Value}→{d:Dyn} →
    Zp A ρ w τ x ov cs→okP τ p→setP τ p x d=some x'→Zp A ρ w d.τ d.x ov' ds→Wv p ov ov' ov''→Zp A ρ w τ x' ov'' (Kf cs (J6 τ p) ds)
  | τ,[],x,x',ov,ov',ov'',cs,ds,d,h,_,hs,hd,hv=>by
    have hc:Vc d.τ τ d.x=some x':=by cases τ <;> simpa only [Ghost.setP] using hs
    have:=Y7 hc
    obtain ⟨σ,y⟩:=d
    cases this
    have h0:J6 σ []=0:=by cases σ <;> rfl
    have h1:=Zp.length σ h
    have h2:ds.length=Zl σ:=Zp.length σ hd
    have:Kf cs (J6 σ []) ds=ds:=by
      unfold Kf
      rw [h0,Nat.zero_add,List.drop_eq_nil_of_le (by omega)]; simp
    rw [this]
    exact Zp.ov σ hv.nil hd
  | .st fs,i :: p,x,x',ov,ov',ov'',cs,ds,d,h,hk,hs,hd,hv=>by
    simp only [Zp] at h ⊢
    simp only [okP] at hk
    simp only [Ghost.setP] at hs
    simp only [J6]
    exact Xw.setP fs 0 i p h hk hs hd (by rw [Nat.zero_add]; exact hv)
  | .arr n e,i :: p,x,x',ov,ov',ov'',cs,ds,d,h,hk,hs,hd,hv=>by
    simp only [Zp] at h ⊢
    simp only [okP] at hk
    simp only [Ghost.setP] at hs
    simp only [J6]
    cases hy:Ghost.setP e p (List.getD x i (dft e)) d with
    | none=>rw [hy] at hs; cases hs
    | some y =>
      rw [hy] at hs
      simp only [Option.some.injEq] at hs
      subst hs
      have h2:=Zp.length d.τ hd
      have h3:=We e p _ _ d hk.2 hy
      have h4:(i+1) * Zl e≤n * Zl e:=Nat.mul_le_mul_right _ hk.1
      rw [Nat.add_mul,Nat.one_mul] at h4
      refine ⟨by simpa using h.1,by rw [Vr (by omega)]; exact h.2.1,fun k hkn => ?_⟩
      have h4':(k+1) * Zl e≤n * Zl e:=Nat.mul_le_mul_right _ hkn
      rw [Nat.add_mul,Nat.one_mul] at h4'
      have hget:=h.2.2 k hkn
      change Zp A ρ w e _ _ (cut cs (k * Zl e) (Zl e)) at hget
      change Zp A ρ w e _ _ (cut _ (k * Zl e) (Zl e))
      by_cases hki:k=i
      · subst hki
        have h5:=Zp.setP e p hget hk.2 hy hd hv.same
        rw [Wo (by omega) (by omega)]
        have:List.getD (List.set x k y) k (dft e)=y:=by
          have hl:k<List.length x:=by omega
          rw [List.getD_eq_getElem?_getD,List.getElem?_set_self hl]; rfl
        rw [this]; exact h5
      · have:List.getD (List.set x i y) k (dft e)=List.getD x k (dft e):=by
          rw [List.getD_eq_getElem?_getD,List.getElem?_set_ne (Ne.symm hki),← List.getD_eq_getElem?_getD]
        rw [this,Gi (by omega) ?_]
        · exact Zp.ov e (hv.other hki) hget
        · rcases Nat.lt_or_gt_of_ne hki with hlt | hgt
          · left
            have:(k+1) * Zl e≤i * Zl e:=Nat.mul_le_mul_right _ hlt
            rw [Nat.add_mul,Nat.one_mul] at this
            omega
          · right
            have:(i+1) * Zl e≤k * Zl e:=Nat.mul_le_mul_right _ hgt
            rw [Nat.add_mul,Nat.one_mul] at this
            omega
  | .bool,_ :: _,_,_,_,_,_,_,_,_,_,hk,_,_,_=>by simp [okP] at hk
  | .int _,_ :: _,_,_,_,_,_,_,_,_,_,hk,_,_,_=>by simp [okP] at hk
  | .str,_ :: _,_,_,_,_,_,_,_,_,_,hk,_,_,_=>by simp [okP] at hk
  | .sl _,_ :: _,_,_,_,_,_,_,_,_,_,hk,_,_,_=>by simp [okP] at hk
theorem Xw.setP {A:Nat→Prop} {ρ:Xo} {w:World}:(fs:List Ty)→(j i:Nat)→(p:Xh)→{x x':Hz fs}→{ov ov' ov'':Ov}→{cs ds:List Value}→{d:Dyn} →
    Xw A ρ w fs j x ov cs→okF fs i p→Hf fs i p x d=some x'→Zp A ρ w d.τ d.x ov' ds→Wv ((j+i) :: p) ov ov' ov''→Xw A ρ w fs j x' ov'' (Kf cs (Ue fs i p) ds)
  | [],_,_,_,_,_,_,_,_,_,_,_,_,hk,_,_,_=>by simp [okF] at hk
  | t :: r,j,0,p,x,x',ov,ov',ov'',cs,ds,d,h,hk,hs,hd,hv=>by
    have hlen:=Xw.length (t :: r) h
    simp only [Uj] at hlen
    simp only [Xw] at h ⊢
    simp only [okF] at hk
    simp only [Hf] at hs
    simp only [Ue]
    cases hy:Ghost.setP t p x.1 d with
    | none=>rw [hy] at hs; cases hs
    | some y =>
      rw [hy] at hs
      simp only [Option.some.injEq] at hs
      subst hs
      have h2:=Zp.length d.τ hd
      have h3:=We t p _ _ d hk hy
      have h5:=Zp.setP t p h.1 hk hy hd hv.same
      refine ⟨?_,?_⟩
      · have:=Wo (cs:=cs) (o:=0) (n:=Zl t) (o':=J6 t p) (ds:=ds) (by omega) (by omega)
        rw [Nat.zero_add] at this
        rw [← Mb,this]; exact h5
      · have:(Kf cs (J6 t p) ds).drop (Zl t)=cs.drop (Zl t):=by
          rw [R6,Vr (by omega),Gi (by omega) (by omega),← R6]
        rw [this]
        exact Xw.skip r (j+1) (i:=j) (by omega) h.2 hv
  | t :: r,j,n+1,p,x,x',ov,ov',ov'',cs,ds,d,h,hk,hs,hd,hv=>by
    have hlen:=Xw.length (t :: r) h
    simp only [Uj] at hlen
    simp only [Xw] at h ⊢
    simp only [okF] at hk
    simp only [Hf] at hs
    simp only [Ue]
    cases hy:Ghost.Hf r n p x.2 d with
    | none=>rw [hy] at hs; cases hs
    | some y =>
      rw [hy] at hs
      simp only [Option.some.injEq] at hs
      subst hs
      have h2:=Zp.length d.τ hd
      have h3:=Da r n p _ _ d hk hy
      have h5:=Xw.setP r (j+1) n p h.2 hk hy hd (by rw [show j+1+n=j+(n+1) by omega]; exact hv)
      refine ⟨?_,?_⟩
      · rw [← Mb,Gi (by omega) (by omega),Mb]
        exact Zp.ov t (hv.other (by omega)) h.1
      · have:(Kf cs (Zl t+Ue r n p) ds).drop (Zl t)=Kf (cs.drop (Zl t)) (Ue r n p) ds:=by
          rw [R6,Vr (by omega),Wo (by omega) (by omega),← R6]
        rw [this]; exact h5
theorem Xw.skip {A:Nat→Prop} {ρ:Xo} {w:World}:(fs:List Ty)→(j:Nat)→{i:Nat}→{p:Xh}→{x:Hz fs}→{ov ov' ov'':Ov}→{cs:List Value}→i<j →
    Xw A ρ w fs j x ov cs→Wv (i :: p) ov ov' ov''→Xw A ρ w fs j x ov'' cs
  | [],_,_,_,_,_,_,_,_,_,h,_=>by simpa only [Xw] using h
  | t :: r,j,i,p,x,ov,ov',ov'',cs,hij,h,hv=>by
    simp only [Xw] at h ⊢
    exact ⟨Zp.ov t (hv.other (by omega)) h.1,Xw.skip r (j+1) (by omega) h.2 hv⟩
end
end Go.Proofs.YtpemapoblhleoaaGreatDoor.Ghost
namespace Go.Proofs.YtpemapoblhleoaaGreatDoor.Ghost
open Go
def Uv:Ty→Bool
  | .st _=>true
  | .arr _ _=>true
  | _=>false
def mkV (τ:Ty) (cs:List Value):Value:=match Uv τ with
  | true=>.agg cs.toArray
  | false=>cs.headD undef
theorem Vm {A:Nat→Prop} {ρ:Xo} {w:World} {τ:Ty} {x:den τ} {ov:Ov} {cs:List Value} (h:Zp A ρ w τ x ov cs):(mkV τ cs).cells.toList=cs:=by
  cases τ with
  | bool=>simp only [Zp] at h; subst h; rfl
  | int k=>simp only [Zp] at h; subst h; rfl
  | str=>simp only [Zp] at h; subst h; rfl
  | sl e=>simp only [Zp] at h; obtain ⟨_,_,_,rfl,_⟩:=h; rfl
  | arr n e=>rfl
  | st fs=>rfl
def Qh:List Value→List Value
  | []=>[]
  | v :: r=>v.cells.toList ++ Qh r
def Th:List SV→List Value→Prop
  | u :: r,v :: s=>v.cells.size=J4 u∧(∀ c∈v.cells.toList,c.oneCell'=true)∧Th r s
  | _,_=>True
mutual
def Zo (A:Nat→Prop) (ρ:Xo) (w:World):SV→Value→Prop
  | .dat τ x ov,v=>∃ cs,Zp A ρ w τ x ov cs∧v=mkV τ cs
  | .ptr g p,v=>∃ s,ρ g=some s∧s.ok p∧v=(match s.mp with | true=>.map (some s.b) | false=>.pointer (some ⟨s.b,s.off p,none⟩))
  | .ref τ x,v=>∃ b o cs,v=.pointer (some ⟨b,o,none⟩)∧A b∧w.rangeAt b o cs∧Zp A ρ w τ x [] cs
  | .refv u,v=>∃ b o u',v=.pointer (some ⟨b,o,none⟩)∧A b∧w.rangeAt b o (Value.cells u').toList∧Zo A ρ w u u'
  | .selfc f us,v=>∃ b o,v=.pointer (some ⟨b,o,none⟩)∧A b∧∃ vs:List Value,w.rangeAt b o [.func (.func f) #[] (v :: vs).toArray]∧Zw A ρ w us vs
  | .glo k,v=>v=.pointer (some ⟨k,0,none⟩)
  | .elp g i p,v=>∃ s,ρ g=some s∧s.mp=false∧i<s.len∧s.ok p∧v=.pointer (some ⟨s.b,i * s.es+s.off p,none⟩)
  | .clo f caps,v=>∃ vs:List Value,v=.func (.func f) #[] vs.toArray∧Zw A ρ w caps vs
  | .tup us,v=>∃ vs:List Value,v=.tuple vs.toArray∧Zw A ρ w us vs
  | .slv us,v=>∃ a n c,v=.slice a n c∧n=us.length∧∃ vs,Zw A ρ w us vs∧Th us vs∧(∃ z,∀ u,u∈us→J4 u=z)∧(0<n→∃ b o,a=some ⟨b,o,none⟩∧A b∧w.rangeAt b o (Qh vs))
  | .fmap ks us,v=>∃ b es c,v=.map (some b)∧A b∧w.heap[b]?=some (.map es c)∧es.toList.map (·.key)=ks.map (Value.int .i64)∧Zw A ρ w us (es.toList.map (·.val))
  | .agv us,v=>∃ vs,v=.agg (Qh vs).toArray∧Zw A ρ w us vs∧Th us vs
  | .nilfn,v=>v=.nilFunc
  | .und,v=>v=undef
  | .junk,_=>True
def Zw (A:Nat→Prop) (ρ:Xo) (w:World):List SV→List Value→Prop
  | [],vs=>vs=[]
  | u :: r,vs=>∃ v vs',vs=v :: vs'∧Zo A ρ w u v∧Zw A ρ w r vs'
end
theorem Yy {w w':World} {b o:Nat} {cs:List Value} (h:w'.heap[b]?=w.heap[b]?) (hr:w.rangeAt b o cs):w'.rangeAt b o cs:=fun j v hv=>by
  have:=hr j v hv
  unfold World.cell? at this ⊢
  simp only [h]
  exact this
theorem Ws {w w':World} {b o n:Nat} (h:w'.heap[b]?=w.heap[b]?) (hr:w.there b o n):w'.there b o n:=fun j hj=>by
  have:=hr j hj
  unfold World.cell? World.frozen? at this ⊢
  simp only [h]
  exact this
mutual
theorem Zo.mono {A A':Nat→Prop} {ρ ρ':Xo} {w w':World} (hA:∀ b,A b→A' b) (hρ:∀ g s,ρ g=some s→ρ' g=some s)
    (hw:∀ b,A b→w'.heap[b]?=w.heap[b]?):(u:SV)→{v:Value}→Zo A ρ w u v→Zo A' ρ' w' u v
  | .dat τ x ov,_,h=>by
    simp only [Zo] at h ⊢
    obtain ⟨cs,h1,h2⟩:=h
    exact ⟨cs,Zp.mono hA hρ hw τ h1,h2⟩
  | .ptr g p,_,h=>by
    simp only [Zo] at h ⊢
    obtain ⟨s,h1,h2⟩:=h
    exact ⟨s,hρ _ _ h1,h2⟩
  | .ref τ x,_,h=>by
    simp only [Zo] at h ⊢
    obtain ⟨b,o,cs,h1,h2,h3,h4⟩:=h
    exact ⟨b,o,cs,h1,hA b h2,Yy (hw b h2) h3,Zp.mono hA hρ hw τ h4⟩
  | .refv u,_,h=>by
    simp only [Zo] at h ⊢
    obtain ⟨b,o,u',h1,h2,h3,h4⟩:=h
    exact ⟨b,o,u',h1,hA b h2,Yy (hw b h2) h3,Zo.mono hA hρ hw u h4⟩
  | .selfc f us,_,h=>by
    simp only [Zo] at h ⊢
    obtain ⟨b,o,h1,h2,vs,h3,h4⟩:=h
    exact ⟨b,o,h1,hA b h2,vs,Yy (hw b h2) h3,Zw.mono hA hρ hw us h4⟩
  | .elp g i p,_,h=>by
    simp only [Zo] at h ⊢
    obtain ⟨s,h1,h2⟩:=h
    exact ⟨s,hρ _ _ h1,h2⟩
  | .clo f caps,_,h=>by
    simp only [Zo] at h ⊢
    obtain ⟨vs,h1,h2⟩:=h
    exact ⟨vs,h1,Zw.mono hA hρ hw caps h2⟩
  | .tup us,_,h=>by
    simp only [Zo] at h ⊢
    obtain ⟨vs,h1,h2⟩:=h
    exact ⟨vs,h1,Zw.mono hA hρ hw us h2⟩
  | .slv us,_,h=>by
    simp only [Zo] at h ⊢
    obtain ⟨a,n,c,h1,h2,vs,h3,h5,h6,h4⟩:=h
    refine ⟨a,n,c,h1,h2,vs,Zw.mono hA hρ hw us h3,h5,h6,fun hn => ?_⟩
    obtain ⟨b,o,k1,k2,k3⟩:=h4 hn
    exact ⟨b,o,k1,hA b k2,Yy (hw b k2) k3⟩
  | .fmap ks us,_,h=>by
    simp only [Zo] at h ⊢
    obtain ⟨b,es,c,h1,h2,h3,h4,h5⟩:=h
    exact ⟨b,es,c,h1,hA b h2,by rw [hw b h2]; exact h3,h4,Zw.mono hA hρ hw us h5⟩
  | .agv us,_,h=>by
    simp only [Zo] at h ⊢
    obtain ⟨vs,h1,h2,h3⟩:=h
    exact ⟨vs,h1,Zw.mono hA hρ hw us h2,h3⟩
  | .nilfn,_,h=>by simpa only [Zo] using h
  | .glo _,_,h=>by simpa only [Zo] using h
  | .und,_,h=>by simpa only [Zo] using h
  | .junk,_,_=>by simp only [Zo]
theorem Zw.mono {A A':Nat→Prop} {ρ ρ':Xo} {w w':World} (hA:∀ b,A b→A' b) (hρ:∀ g s,ρ g=some s→ρ' g=some s)
    (hw:∀ b,A b→w'.heap[b]?=w.heap[b]?):(us:List SV)→{vs:List Value}→Zw A ρ w us vs→Zw A' ρ' w' us vs
  | [],_,h=>by simpa only [Zw] using h
  | u :: r,_,h=>by
    simp only [Zw] at h ⊢
    obtain ⟨v,vs',h1,h2,h3⟩:=h
    exact ⟨v,vs',h1,Zo.mono hA hρ hw u h2,Zw.mono hA hρ hw r h3⟩
end
mutual
theorem Pd (f:Nat→Nat):(u:SV)→J4 (Vv f u)=J4 u
  | .dat _ _ _=>rfl
  | .ptr _ _=>rfl
  | .ref _ _=>rfl
  | .refv _=>rfl
  | .selfc _ _=>rfl
  | .glo _=>rfl
  | .elp _ _ _=>rfl
  | .clo _ _=>rfl
  | .tup _=>rfl
  | .slv _=>rfl
  | .fmap _ _=>rfl
  | .agv us=>by simp only [Vv,J4]; exact Fp f us
  | .nilfn=>rfl
  | .und=>rfl
  | .junk=>rfl
theorem Fp (f:Nat→Nat):(us:List SV)→H1 (Kv f us)=H1 us
  | []=>rfl
  | u :: r=>by simp only [Kv,H1,Pd f u,Fp f r]
end
theorem E3 (f:Nat→Nat):(us:List SV)→(vs:List Value)→Th us vs→Th (Kv f us) vs
  | [],_,_=>by simp [Kv,Th]
  | _ :: _,[],_=>by simp [Kv,Th]
  | u :: r,v :: s,h=>by
    simp only [Th,Kv] at h ⊢
    exact ⟨by rw [Pd]; exact h.1,h.2.1,E3 f r s h.2.2⟩
theorem ABt {f:Nat→Nat} {u:SV}:{us:List SV}→u∈Kv f us→∃ u',u'∈us∧u=Vv f u'
  | v :: r,h=>by
    simp only [Kv,List.mem_cons] at h
    rcases h with rfl | h
    · exact ⟨v,by simp,rfl⟩
    · obtain ⟨u',h1,h2⟩:=ABt h
      exact ⟨u',by simp [h1],h2⟩
theorem Ez {f:Nat→Nat} {q:Xh} {g:Nat}:{ov:Ov}→((q,some g)∈K9 f ov↔∃ g',(q,some g')∈ov∧g=f g')
  | []=>by simp [K9]
  | (q',some g') :: r=>by
    simp only [K9,List.mem_cons,Ez (ov:=r),Prod.mk.injEq,Option.some.injEq]
    constructor
    · rintro (⟨rfl,rfl⟩ | ⟨g'',h1,h2⟩)
      · exact ⟨g',.inl ⟨rfl,rfl⟩,rfl⟩
      · exact ⟨g'',.inr h1,h2⟩
    · rintro ⟨g'',⟨rfl,rfl⟩ | h1,h2⟩
      · exact .inl ⟨rfl,h2⟩
      · exact .inr ⟨g'',h1,h2⟩
  | (q',none) :: r=>by simp [K9,Ez (ov:=r)]
theorem Ps {f:Nat→Nat} {q:Xh}:{ov:Ov}→((∃ o,(q,o)∈K9 f ov)↔∃ o,(q,o)∈ov)
  | []=>by simp [K9]
  | (q',some g') :: r=>by
    have:=Ps (f:=f) (q:=q) (ov:=r)
    simp only [K9,List.mem_cons,Prod.mk.injEq,exists_or,this]
    constructor
    · rintro (⟨o,rfl,_⟩ | h)
      · exact .inl ⟨some g',rfl,rfl⟩
      · exact .inr h
    · rintro (⟨o,rfl,_⟩ | h)
      · exact .inl ⟨some (f g'),rfl,rfl⟩
      · exact .inr h
  | (q',none) :: r=>by
    have:=Ps (f:=f) (q:=q) (ov:=r)
    simp only [K9,List.mem_cons,Prod.mk.injEq,exists_or,this]
theorem Rx (f:Nat→Nat) (p:Xh):(ov:Ov)→Vk p (K9 f ov)=K9 f (Vk p ov)
  | []=>rfl
  | (q,some g) :: r=>by
    simp only [K9,Vk]
    cases Gp p q <;> simp [K9,Rx f p r]
  | (q,none) :: r=>by
    simp only [K9,Vk]
    cases Gp p q <;> simp [K9,Rx f p r]
theorem Em {p:Nat→Bool} {q:Xh} {g:Nat}:{ov:Ov}→Un p ov=true→(q,some g)∈ov→p g=true
  | (q',some g') :: r,h,hm=>by
    simp only [Un,Bool.and_eq_true] at h
    simp only [List.mem_cons,Prod.mk.injEq,Option.some.injEq] at hm
    rcases hm with ⟨rfl,rfl⟩ | hm
    · exact h.1
    · exact Em h.2 hm
  | (q',none) :: r,h,hm=>by
    simp only [Un] at h
    simp only [List.mem_cons,Prod.mk.injEq,reduceCtorEq,and_false,false_or] at hm
    exact Em h hm
theorem T2 {p:Nat→Bool} {q:Xh}:{ov:Ov}→Un p ov=true→Un p (Vk q ov)=true
  | [],_=>rfl
  | (q',some g') :: r,h=>by
    simp only [Un,Bool.and_eq_true] at h
    simp only [Vk]
    cases Gp q q'
    · exact T2 h.2
    · simp only [Un,Bool.and_eq_true]; exact ⟨h.1,T2 h.2⟩
  | (q',none) :: r,h=>by
    simp only [Un] at h
    simp only [Vk]
    cases Gp q q'
    · exact T2 h
    · simp only [Un]; exact T2 h
section names
variable {A:Nat→Prop} {ρ ρ':Xo} {w:World} {p:Nat→Bool} {f:Nat→Nat} 
mutual
theorem Zp.names (hf:∀ g s,p g=true→ρ g=some s→ρ' (f g)=some s):(τ:Ty)→{x:den τ}→{ov:Ov}→{cs:List Value}→Un p ov=true→Zp A ρ w τ x ov cs→Zp A ρ' w τ x (K9 f ov) cs
  | .bool,_,_,_,_,h=>by simpa only [Zp] using h
  | .int _,_,_,_,_,h=>by simpa only [Zp] using h
  | .str,_,_,_,_,h=>by simpa only [Zp] using h
  | .sl e,_,ov,_,hp,h=>by
    simp only [Zp] at h ⊢
    obtain ⟨a,n,c,h1,h2,h3⟩:=h
    refine ⟨a,n,c,h1,fun g hg => ?_,fun hn => ?_⟩
    · obtain ⟨g',k1,rfl⟩:=Ez.1 hg
      obtain ⟨s,ad,m1,m2⟩:=h2 g' k1
      exact ⟨s,ad,hf _ _ (Em hp k1) m1,m2⟩
    · have hn':∀ o,([],o) ∉ ov:=fun o ho=>by
        obtain ⟨o',ho'⟩:=Ps (f:=f).2 ⟨o,ho⟩
        exact hn o' ho'
      refine ⟨(h3 hn').1,fun hpos => ?_⟩
      obtain ⟨b,o,ds,k1,k2,k3,k4,k5⟩:=(h3 hn').2 hpos
      exact ⟨b,o,ds,k1,k2,k3,k4,fun i hi=>by simpa only [K9] using Zp.names hf e (ov:=[]) rfl (k5 i hi)⟩
  | .arr n e,_,ov,_,hp,h=>by
    simp only [Zp] at h ⊢
    exact ⟨h.1,h.2.1,fun i hi=>by rw [Rx]; exact Zp.names hf e (T2 hp) (h.2.2 i hi)⟩
  | .st fs,_,_,_,hp,h=>by simp only [Zp] at h ⊢; exact Xw.names hf fs hp h
theorem Xw.names (hf:∀ g s,p g=true→ρ g=some s→ρ' (f g)=some s):(fs:List Ty)→{j:Nat}→{x:Hz fs}→{ov:Ov}→{cs:List Value}→Un p ov=true→Xw A ρ w fs j x ov cs→Xw A ρ' w fs j x (K9 f ov) cs
  | [],_,_,_,_,_,h=>by simpa only [Xw] using h
  | t :: r,_,_,_,_,hp,h=>by
    simp only [Xw] at h ⊢
    exact ⟨by rw [Rx]; exact Zp.names hf t (T2 hp) h.1,Xw.names hf r hp h.2⟩
end
mutual
theorem Zo.names (hf:∀ g s,p g=true→ρ g=some s→ρ' (f g)=some s):(u:SV)→{v:Value}→U9 p u=true→Zo A ρ w u v→Zo A ρ' w (Vv f u) v
  | .dat τ x ov,_,hp,h=>by
    simp only [Zo,Vv,U9] at h hp ⊢
    obtain ⟨cs,h1,h2⟩:=h
    exact ⟨cs,Zp.names hf τ hp h1,h2⟩
  | .ptr g q,_,hp,h=>by
    simp only [Zo,Vv,U9] at h hp ⊢
    obtain ⟨s,h1,h2⟩:=h
    exact ⟨s,hf _ _ hp h1,h2⟩
  | .ref τ x,_,hp,h=>by
    simp only [Zo,Vv,U9] at h hp ⊢
    obtain ⟨b,o,cs,h1,h2,h3,h4⟩:=h
    exact ⟨b,o,cs,h1,h2,h3,by simpa only [K9] using Zp.names hf τ (ov:=[]) rfl h4⟩
  | .refv u,_,hp,h=>by
    simp only [Zo,Vv,U9] at h hp ⊢
    obtain ⟨b,o,u',h1,h2,h3,h4⟩:=h
    exact ⟨b,o,u',h1,h2,h3,Zo.names hf u hp h4⟩
  | .selfc c us,_,hp,h=>by
    simp only [Zo,Vv,U9] at h hp ⊢
    obtain ⟨b,o,h1,h2,vs,h3,h4⟩:=h
    exact ⟨b,o,h1,h2,vs,h3,Zw.names hf us hp h4⟩
  | .elp g i q,_,hp,h=>by
    simp only [Zo,Vv,U9] at h hp ⊢
    obtain ⟨s,h1,h2⟩:=h
    exact ⟨s,hf _ _ hp h1,h2⟩
  | .clo c caps,_,hp,h=>by
    simp only [Zo,Vv,U9] at h hp ⊢
    obtain ⟨vs,h1,h2⟩:=h
    exact ⟨vs,h1,Zw.names hf caps hp h2⟩
  | .tup us,_,hp,h=>by
    simp only [Zo,Vv,U9] at h hp ⊢
    obtain ⟨vs,h1,h2⟩:=h
    exact ⟨vs,h1,Zw.names hf us hp h2⟩
  | .slv us,_,hp,h=>by
    simp only [Zo,Vv,U9] at h hp ⊢
    obtain ⟨a,n,c,h1,h2,vs,h3,h5,⟨z,h6⟩,h4⟩:=h
    have:∀ l:List SV,(Kv f l).length=l.length:=fun l=>by induction l <;> simp_all [Kv]
    refine ⟨a,n,c,h1,by rw [this]; exact h2,vs,Zw.names hf us hp h3,E3 f us vs h5,⟨z,fun u hu => ?_⟩,h4⟩
    obtain ⟨u',k1,rfl⟩:=ABt hu
    rw [Pd]; exact h6 u' k1
  | .fmap ks us,_,hp,h=>by
    simp only [Zo,Vv,U9] at h hp ⊢
    obtain ⟨b,es,c,h1,h2,h3,h4,h5⟩:=h
    exact ⟨b,es,c,h1,h2,h3,h4,Zw.names hf us hp h5⟩
  | .agv us,_,hp,h=>by
    simp only [Zo,Vv,U9] at h hp ⊢
    obtain ⟨vs,h1,h2,h3⟩:=h
    exact ⟨vs,h1,Zw.names hf us hp h2,E3 f us vs h3⟩
  | .nilfn,_,_,h=>by simpa only [Zo,Vv] using h
  | .glo _,_,_,h=>by simpa only [Zo,Vv] using h
  | .und,_,_,h=>by simpa only [Zo,Vv] using h
  | .junk,_,_,_=>by simp only [Zo,Vv]
theorem Zw.names (hf:∀ g s,p g=true→ρ g=some s→ρ' (f g)=some s):(us:List SV)→{vs:List Value}→Mg p us=true→Zw A ρ w us vs→Zw A ρ' w (Kv f us) vs
  | [],_,_,h=>by simpa only [Zw,Kv] using h
  | u :: r,_,hp,h=>by
    simp only [Zw,Kv,Mg,Bool.and_eq_true] at h hp ⊢
    obtain ⟨v,vs',h1,h2,h3⟩:=h
    exact ⟨v,vs',h1,Zo.names hf u hp.1 h2,Zw.names hf r hp.2 h3⟩
end
end names
theorem I5:(ov:Ov)→K9 id ov=ov
  | []=>rfl
  | (_,some _) :: r=>by simp [K9,I5 r]
  | (_,none) :: r=>by simp [K9,I5 r]
mutual
theorem Fx:(u:SV)→Vv id u=u
  | .dat _ _ ov=>by simp [Vv,I5 ov]
  | .ptr _ _=>rfl
  | .ref _ _=>rfl
  | .refv u=>by simp [Vv,Fx u]
  | .selfc _ us=>by simp [Vv,Rj us]
  | .glo _=>rfl
  | .elp _ _ _=>rfl
  | .clo _ us=>by simp [Vv,Rj us]
  | .tup us=>by simp [Vv,Rj us]
  | .slv us=>by simp [Vv,Rj us]
  | .fmap _ us=>by simp [Vv,Rj us]
  | .agv us=>by simp [Vv,Rj us]
  | .nilfn=>rfl
  | .und=>rfl
  | .junk=>rfl
theorem Rj:(us:List SV)→Kv id us=us
  | []=>rfl
  | u :: r=>by simp [Kv,Fx u,Rj r]
end
end Go.Proofs.YtpemapoblhleoaaGreatDoor.Ghost
namespace Go.Proofs.YtpemapoblhleoaaGreatDoor.Ghost
open Go
mutual
def Td:SV→Xh→Nat
  | .agv vs,i :: p=>Up vs i p
  | _,_=>0
def Up:List SV→Nat→Xh→Nat
  | [],_,_=>0
  | v :: _,0,p=>Td v p
  | v :: r,n+1,p=>J4 v+Up r n p
end
theorem Wg:(us:List SV)→(vs:List Value)→{A:Nat→Prop}→{ρ:Xo}→{w:World}→Zw A ρ w us vs→Th us vs→(Qh vs).length=H1 us
  | [],_,_,_,_,h,_=>by simp only [Zw] at h; subst h; rfl
  | u :: r,_,_,_,_,h,hs=>by
    simp only [Zw] at h
    obtain ⟨v,vs',rfl,_,h3⟩:=h
    simp only [Th] at hs
    simp only [Qh,List.length_append,H1,Array.length_toList,hs.1,Wg r vs' h3 hs.2.2]
theorem Zo.size {A:Nat→Prop} {ρ:Xo} {w:World}:{u:SV}→{v:Value}→u≠.junk→Zo A ρ w u v→v.cells.size=J4 u
  | .dat τ x ov,v,_,h=>by
    simp only [Zo] at h
    obtain ⟨cs,h1,rfl⟩:=h
    rw [← Array.length_toList,Vm h1,Zp.length τ h1]; rfl
  | .ptr g p,v,_,h=>by
    simp only [Zo] at h
    obtain ⟨s,_,_,rfl⟩:=h
    cases s.mp <;> rfl
  | .ref τ x,v,_,h=>by
    simp only [Zo] at h
    obtain ⟨_,_,_,rfl,_⟩:=h; rfl
  | .refv u,v,_,h=>by
    simp only [Zo] at h
    obtain ⟨_,_,_,rfl,_⟩:=h; rfl
  | .selfc f us,v,_,h=>by
    simp only [Zo] at h
    obtain ⟨_,_,rfl,_⟩:=h; rfl
  | .glo k,v,_,h=>by
    simp only [Zo] at h
    subst h; rfl
  | .elp g i p,v,_,h=>by
    simp only [Zo] at h
    obtain ⟨_,_,_,_,_,rfl⟩:=h; rfl
  | .clo f caps,v,_,h=>by
    simp only [Zo] at h
    obtain ⟨_,rfl,_⟩:=h; rfl
  | .tup us,v,_,h=>by
    simp only [Zo] at h
    obtain ⟨_,rfl,_⟩:=h; rfl
  | .slv us,v,_,h=>by
    simp only [Zo] at h
    obtain ⟨_,_,_,rfl,_⟩:=h; rfl
  | .fmap ks us,v,_,h=>by
    simp only [Zo] at h
    obtain ⟨_,_,_,rfl,_⟩:=h; rfl
  | .agv us,v,_,h=>by
    simp only [Zo] at h
    obtain ⟨vs,rfl,h2,h3⟩:=h
    show (Qh vs).toArray.size=_
    rw [List.size_toArray,Wg us vs h2 h3]; rfl
  | .nilfn,v,_,h=>by simp only [Zo] at h; subst h; rfl
  | .und,v,_,h=>by simp only [Zo] at h; subst h; rfl
  | .junk,_,h,_=>absurd rfl h
mutual
theorem Zp.one {A:Nat→Prop} {ρ:Xo} {w:World}:(τ:Ty)→{x:den τ}→{ov:Ov}→{cs:List Value}→Zp A ρ w τ x ov cs→∀ c∈cs,c.oneCell'=true
  | .bool,_,_,_,h=>by simp only [Zp] at h; subst h; simp [Value.oneCell']
  | .int _,_,_,_,h=>by simp only [Zp] at h; subst h; simp [Value.oneCell']
  | .str,_,_,_,h=>by simp only [Zp] at h; subst h; simp [Value.oneCell']
  | .sl _,_,_,_,h=>by simp only [Zp] at h; obtain ⟨_,_,_,rfl,_⟩:=h; simp [Value.oneCell']
  | .arr n e,_,_,cs,h=>by
    simp only [Zp] at h
    intro c hc
    obtain ⟨k,hk,rfl⟩:=List.getElem_of_mem hc
    have hk':k<n * Zl e:=by rw [← h.2.1]; exact hk
    have hpos:0<Zl e:=by
      rcases Nat.eq_zero_or_pos (Zl e) with h0 | h0
      · rw [h0] at hk'; simp at hk'
      · exact h0
    have hi:k / Zl e<n:=Nat.div_lt_of_lt_mul (by rw [Nat.mul_comm]; exact hk')
    refine Zp.one e (h.2.2 _ hi) _ ?_
    have hm:=Nat.div_add_mod k (Zl e)
    have hlt:=Nat.mod_lt k hpos
    rw [List.mem_iff_getElem?]
    refine ⟨k % Zl e,?_⟩
    rw [List.getElem?_take_of_lt hlt,List.getElem?_drop,Nat.mul_comm,hm,List.getElem?_eq_getElem hk]
  | .st fs,_,_,_,h=>by simp only [Zp] at h; exact Xw.one fs h
theorem Xw.one {A:Nat→Prop} {ρ:Xo} {w:World}:(fs:List Ty)→{j:Nat}→{x:Hz fs}→{ov:Ov}→{cs:List Value}→Xw A ρ w fs j x ov cs→∀ c∈cs,c.oneCell'=true
  | [],_,_,_,_,h=>by simp only [Xw] at h; subst h; simp
  | t :: r,_,_,_,cs,h=>by
    simp only [Xw] at h
    intro c hc
    rw [← List.take_append_drop (Zl t) cs,List.mem_append] at hc
    rcases hc with hc | hc
    · exact Zp.one t h.1 c hc
    · exact Xw.one r h.2 c hc
end
theorem Ay:(us:List SV)→(vs:List Value)→us.length=vs.length→Th us vs→∀ c∈Qh vs,c.oneCell'=true
  | [],[],_,_=>by simp [Qh]
  | u :: r,v :: s,hl,h=>by
    simp only [Th] at h
    intro c hc
    simp only [Qh,List.mem_append] at hc
    rcases hc with hc | hc
    · exact h.2.1 c hc
    · exact Ay r s (by simpa using hl) h.2.2 c hc
theorem Zw.len {A:Nat→Prop} {ρ:Xo} {w:World}:(us:List SV)→{vs:List Value}→Zw A ρ w us vs→us.length=vs.length
  | [],_,h=>by simp only [Zw] at h; subst h; rfl
  | u :: r,_,h=>by
    simp only [Zw] at h
    obtain ⟨v,vs',rfl,_,h3⟩:=h
    simp [Zw.len r h3]
theorem Zo.one {A:Nat→Prop} {ρ:Xo} {w:World} {u:SV} {v:Value} {n:Nat} (hs:G6 n u=true) (h:Zo A ρ w u v):∀ c∈v.cells.toList,c.oneCell'=true:=by
  cases u with
  | dat τ x ov =>
    simp only [Zo] at h
    obtain ⟨cs,h1,rfl⟩:=h
    rw [Vm h1]
    exact Zp.one τ h1
  | ptr g p =>
    simp only [Zo] at h
    obtain ⟨s,_,_,rfl⟩:=h
    cases s.mp <;> simp [Value.cells,Value.oneCell']
  | ref τ x =>
    simp only [Zo] at h
    obtain ⟨_,_,_,rfl,_⟩:=h; simp [Value.cells,Value.oneCell']
  | refv u =>
    simp only [Zo] at h
    obtain ⟨_,_,_,rfl,_⟩:=h; simp [Value.cells,Value.oneCell']
  | selfc f us =>
    simp only [Zo] at h
    obtain ⟨_,_,rfl,_⟩:=h; simp [Value.cells,Value.oneCell']
  | glo k =>
    simp only [Zo] at h
    subst h; simp [Value.cells,Value.oneCell']
  | elp g i p =>
    simp only [Zo] at h
    obtain ⟨_,_,_,_,_,rfl⟩:=h; simp [Value.cells,Value.oneCell']
  | clo f caps =>
    simp only [Zo] at h
    obtain ⟨_,rfl,_⟩:=h; simp [Value.cells,Value.oneCell']
  | slv us =>
    simp only [Zo] at h
    obtain ⟨_,_,_,rfl,_⟩:=h; simp [Value.cells,Value.oneCell']
  | fmap ks us =>
    simp only [Zo] at h
    obtain ⟨_,_,_,rfl,_⟩:=h; simp [Value.cells,Value.oneCell']
  | agv us =>
    simp only [Zo] at h
    obtain ⟨vs,rfl,h2,h3⟩:=h
    exact Ay us vs (Zw.len us h2) h3
  | nilfn=>simp only [Zo] at h; subst h; simp [Value.cells,Value.oneCell']
  | und=>simp [G6] at hs
  | tup us=>simp [G6] at hs
  | junk=>simp [G6] at hs
mutual
theorem Zo.getV {A:Nat→Prop} {ρ:Xo} {w:World}:(u:SV)→{p:Xh}→{v:Value}→{x:SV}→Zo A ρ w u v→Ghost.getV u p=some x →
    ∃ v',Zo A ρ w x v'∧v'.cells.toList=cut v.cells.toList (Td u p) v'.cells.size
  | u,[],v,x,h,hg=>by
    have:u=x:=by cases u <;> simpa [Ghost.getV] using hg
    subst this
    refine ⟨v,h,?_⟩
    have:Td u []=0:=by cases u <;> rfl
    rw [this,AI0]; simp
  | .agv us,i :: p,v,x,h,hg=>by
    simp only [Zo] at h
    obtain ⟨vs,rfl,h2,h3⟩:=h
    simp only [Ghost.getV] at hg
    obtain ⟨v',k1,k2⟩:=Zw.getV us h2 h3 hg
    exact ⟨v',k1,by simpa only [Td,Value.cells] using k2⟩
  | .dat _ _ _,_ :: _,_,_,_,hg=>by simp [Ghost.getV] at hg
  | .ptr _ _,_ :: _,_,_,_,hg=>by simp [Ghost.getV] at hg
  | .ref _ _,_ :: _,_,_,_,hg=>by simp [Ghost.getV] at hg
  | .refv _,_ :: _,_,_,_,hg=>by simp [Ghost.getV] at hg
  | .selfc _ _,_ :: _,_,_,_,hg=>by simp [Ghost.getV] at hg
  | .glo _,_ :: _,_,_,_,hg=>by simp [Ghost.getV] at hg
  | .elp _ _ _,_ :: _,_,_,_,hg=>by simp [Ghost.getV] at hg
  | .clo _ _,_ :: _,_,_,_,hg=>by simp [Ghost.getV] at hg
  | .tup _,_ :: _,_,_,_,hg=>by simp [Ghost.getV] at hg
  | .slv _,_ :: _,_,_,_,hg=>by simp [Ghost.getV] at hg
  | .fmap _ _,_ :: _,_,_,_,hg=>by simp [Ghost.getV] at hg
  | .nilfn,_ :: _,_,_,_,hg=>by simp [Ghost.getV] at hg
  | .und,_ :: _,_,_,_,hg=>by simp [Ghost.getV] at hg
  | .junk,_ :: _,_,_,_,hg=>by simp [Ghost.getV] at hg
theorem Zw.getV {A:Nat→Prop} {ρ:Xo} {w:World}:(us:List SV)→{i:Nat}→{p:Xh}→{vs:List Value}→{x:SV}→Zw A ρ w us vs→Th us vs→getV.getVL us i p=some x →
    ∃ v',Zo A ρ w x v'∧v'.cells.toList=cut (Qh vs) (Up us i p) v'.cells.size
  | [],_,_,_,_,_,_,hg=>by simp [getV.getVL] at hg
  | u :: r,0,p,vs,x,h,hs,hg=>by
    simp only [Zw] at h
    obtain ⟨v,vs',rfl,h2,h3⟩:=h
    simp only [getV.getVL] at hg
    obtain ⟨v',k1,k2⟩:=Zo.getV u h2 hg
    refine ⟨v',k1,?_⟩
    rw [k2]
    simp only [Up,Qh]
    refine List.ext_getElem? fun k => ?_
    have hl:v'.cells.size≤v.cells.size - Td u p∨True:=.inr trivial
    have k3:(cut v.cells.toList (Td u p) v'.cells.size).length=v'.cells.size:=by rw [← k2]; simp
    have k4:v'.cells.size=min v'.cells.size (v.cells.size - Td u p):=by
      unfold cut at k3
      simp only [List.length_take,List.length_drop,Array.length_toList] at k3
      omega
    rw [Jd,Jd]
    by_cases hk:k<v'.cells.size
    · simp only [hk,if_true]
      rw [List.getElem?_append_left (by simp only [Array.length_toList]; omega)]
    · simp only [hk,if_false]
  | u :: r,n+1,p,vs,x,h,hs,hg=>by
    simp only [Zw] at h
    obtain ⟨v,vs',rfl,h2,h3⟩:=h
    simp only [Th] at hs
    simp only [getV.getVL] at hg
    obtain ⟨v',k1,k2⟩:=Zw.getV r h3 hs.2.2 hg
    refine ⟨v',k1,?_⟩
    rw [k2]
    simp only [Up,Qh]
    unfold cut
    have hz:List.drop v.cells.size v.cells.toList=[]:=List.drop_eq_nil_of_le (by simp)
    rw [← hs.1,← List.drop_drop,List.drop_append_of_le_length (by simp),hz,List.nil_append]
end
def Xz (A:Nat→Prop) (ρ:Xo) (w:World) (κ ν:Ty):List (den κ×den ν)→List MapEntry→Prop
  | [],es=>es=[]
  | (k,v) :: r,es=>∃ e es',es=e :: es'∧(∃ cs,Zp A ρ w κ k [] cs∧e.key=mkV κ cs)∧(∃ cs,Zp A ρ w ν v [] cs∧e.val=mkV ν cs)∧Xz A ρ w κ ν r es'
def AD9 (es:List MapEntry) (c:Nat):Prop:=c=es.length∧∀ (j:Nat) e,es[j]?=some e→e.born=j
def Own (own:Nat→Option Nat) (w:World) (g:Nat) (s:Hv) (cs:List Value):Prop :=
  own s.b=some g∧w.rangeAt s.b 0 cs∧w.there s.b 0 cs.length
def AFu (A:Nat→Prop) (w:World) (s:Hv) (cs:List Value):Prop:=A s.b∧w.rangeAt s.b 0 cs
def Ri (A:Nat→Prop) (ρ:Xo) (w:World) (g:Nat) (τ:Ty) (x:den τ) (ov:Ov) (M:Hv→List Value→Prop):Prop :=
  ∃ s cs,ρ g=some s∧s.mp=false∧s.off=J6 τ∧s.ok=okP τ∧M s cs∧Zp A ρ w τ x ov cs
def okV (u:SV) (p:Xh):Prop:=∃ x,getV u p=some x
def Wm (A:Nat→Prop) (ρ:Xo) (w:World) (g:Nat) (u:SV) (M:Hv→List Value→Prop):Prop :=
  ∃ s v,ρ g=some s∧s.mp=false∧s.off=Td u∧s.ok=okV u∧u≠.junk∧M s (Value.cells v).toList∧Zo A ρ w u v
def Kx (A:Nat→Prop) (ρ:Xo) (w:World) (g:Nat) (e:Ty) (l:List (den e)) (M:Hv→List Value→Prop):Prop :=
  ∃ s,ρ g=some s∧s.mp=false∧s.es=Zl e∧0<Zl e∧s.off=J6 e∧s.ok=okP e∧List.length l=s.len∧s.len≤s.cap ∧
    (0<s.cap→∃ cs,cs.length=s.cap * s.es∧M s cs∧∀ i,i<s.len→Zp A ρ w e (List.getD l i (dft e)) [] (cut cs (i * s.es) s.es))
def Kj (A:Nat→Prop) (ρ:Xo) (own:Nat→Option Nat) (w:World) (g:Nat):Obj→Prop
  | .box τ x ov=>Ri A ρ w g τ x ov (Own own w g)
  | .boxv u=>Wm A ρ w g u (Own own w g)
  | .fbox τ x ov=>Ri A ρ w g τ x ov (AFu A w)
  | .fboxv u=>Wm A ρ w g u (AFu A w)
  | .arr e l=>Kx A ρ w g e l (Own own w g)
  | .frz e l=>Kx A ρ w g e l (AFu A w)
  | .map κ ν l=>∃ s es c,ρ g=some s∧s.mp=true∧own s.b=some g∧(∀ p,s.ok p↔p=[])∧w.heap[s.b]?=some (.map es c)∧Xz A ρ w κ ν l es.toList∧AD9 es.toList c
  | .hid=>True
  | .dead=>True
  | .none=>ρ g=none
theorem Xz.mono {A A':Nat→Prop} {ρ ρ':Xo} {w w':World} (hA:∀ b,A b→A' b) (hρ:∀ g s,ρ g=some s→ρ' g=some s)
    (hw:∀ b,A b→w'.heap[b]?=w.heap[b]?) {κ ν:Ty}:{l:List (den κ×den ν)}→{es:List MapEntry}→Xz A ρ w κ ν l es→Xz A' ρ' w' κ ν l es
  | [],_,h=>by simpa only [Xz] using h
  | (k,v) :: r,_,h=>by
    simp only [Xz] at h ⊢
    obtain ⟨e,es',h1,⟨c1,h2,h3⟩,⟨c2,h4,h5⟩,h6⟩:=h
    exact ⟨e,es',h1,⟨c1,Zp.mono hA hρ hw κ h2,h3⟩,⟨c2,Zp.mono hA hρ hw ν h4,h5⟩,Xz.mono hA hρ hw h6⟩
theorem Kj.mono {A A':Nat→Prop} {ρ ρ':Xo} {own own':Nat→Option Nat} {w w':World} {g:Nat} (hA:∀ b,A b→A' b) (hρ:∀ g s,ρ g=some s→ρ' g=some s)
    (hw:∀ b,A b∨own b=some g→w'.heap[b]?=w.heap[b]?) (ho:∀ b,own b=some g→own' b=some g) (hn:ρ g=none→ρ' g=none):{o:Obj}→Kj A ρ own w g o→Kj A' ρ' own' w' g o
  | .box τ x ov,h=>by
    simp only [Kj,Ri] at h ⊢
    obtain ⟨s,cs,h1,h2,h3,h4,⟨m1,m2,m3⟩,h5⟩:=h
    exact ⟨s,cs,hρ _ _ h1,h2,h3,h4,⟨ho _ m1,Yy (hw _ (.inr m1)) m2,Ws (hw _ (.inr m1)) m3⟩,Zp.mono hA hρ (fun b hb=>hw b (.inl hb)) τ h5⟩
  | .boxv u,h=>by
    simp only [Kj,Wm] at h ⊢
    obtain ⟨s,cs,h1,h2,h3,h4,h6,⟨m1,m2,m3⟩,h5⟩:=h
    exact ⟨s,cs,hρ _ _ h1,h2,h3,h4,h6,⟨ho _ m1,Yy (hw _ (.inr m1)) m2,Ws (hw _ (.inr m1)) m3⟩,Zo.mono hA hρ (fun b hb=>hw b (.inl hb)) u h5⟩
  | .fbox τ x ov,h=>by
    simp only [Kj,Ri] at h ⊢
    obtain ⟨s,cs,h1,h2,h3,h4,⟨m1,m2⟩,h5⟩:=h
    exact ⟨s,cs,hρ _ _ h1,h2,h3,h4,⟨hA _ m1,Yy (hw _ (.inl m1)) m2⟩,Zp.mono hA hρ (fun b hb=>hw b (.inl hb)) τ h5⟩
  | .fboxv u,h=>by
    simp only [Kj,Wm] at h ⊢
    obtain ⟨s,cs,h1,h2,h3,h4,h6,⟨m1,m2⟩,h5⟩:=h
    exact ⟨s,cs,hρ _ _ h1,h2,h3,h4,h6,⟨hA _ m1,Yy (hw _ (.inl m1)) m2⟩,Zo.mono hA hρ (fun b hb=>hw b (.inl hb)) u h5⟩
  | .arr e l,h=>by
    simp only [Kj,Kx] at h ⊢
    obtain ⟨s,h1,h2,h3,h4,h5,h6,h7,h8,h9⟩:=h
    refine ⟨s,hρ _ _ h1,h2,h3,h4,h5,h6,h7,h8,fun hc => ?_⟩
    obtain ⟨cs,k1,⟨m1,m2,m3⟩,k2⟩:=h9 hc
    exact ⟨cs,k1,⟨ho _ m1,Yy (hw _ (.inr m1)) m2,Ws (hw _ (.inr m1)) m3⟩,fun i hi=>Zp.mono hA hρ (fun b hb=>hw b (.inl hb)) e (k2 i hi)⟩
  | .frz e l,h=>by
    simp only [Kj,Kx] at h ⊢
    obtain ⟨s,h1,h2,h3,h4,h5,h6,h7,h8,h9⟩:=h
    refine ⟨s,hρ _ _ h1,h2,h3,h4,h5,h6,h7,h8,fun hc => ?_⟩
    obtain ⟨cs,k1,⟨m1,m2⟩,k2⟩:=h9 hc
    exact ⟨cs,k1,⟨hA _ m1,Yy (hw _ (.inl m1)) m2⟩,fun i hi=>Zp.mono hA hρ (fun b hb=>hw b (.inl hb)) e (k2 i hi)⟩
  | .map κ ν l,h=>by
    simp only [Kj] at h ⊢
    obtain ⟨s,es,c,h1,h2,h3,h4,h5,h6,h7⟩:=h
    exact ⟨s,es,c,hρ _ _ h1,h2,ho _ h3,h4,by rw [hw _ (.inr h3)]; exact h5,Xz.mono hA hρ (fun b hb=>hw b (.inl hb)) h6,h7⟩
  | .hid,_=>trivial
  | .dead,_=>trivial
  | .none,h=>hn h
def Kr (A:Nat→Prop) (w:World):Prop:=∀ k d,P3 k=some d→A k∧∃ cs,Zp A (fun _=>none) w d.τ d.x [] cs∧w.rangeAt k 0 cs
theorem Kr.mono {A A':Nat→Prop} {w w':World} (hA:∀ b,A b→A' b) (hw:∀ b,A b→w'.heap[b]?=w.heap[b]?) (h:Kr A w):Kr A' w':=fun k d hd=>by
  obtain ⟨h1,cs,h2,h3⟩:=h k d hd
  exact ⟨hA k h1,cs,Zp.mono hA (fun _ _ h=>h) hw d.τ h2,Yy (hw k h1) h3⟩
structure Q3 where
  w:World
  A:Nat→Prop
structure St (B:Nat) (w0:Q3) (A:Nat→Prop) (ρ:Xo) (own:Nat→Option Nat) (w:World) (h:Nat→Obj):Prop where
  objs:∀ g,Kj A ρ own w g (h g)
  apart:∀ b g,own b=some g→¬ A b
  old:∀ b,A b→b<w.heap.size
  oldO:∀ b g,own b=some g→b<w.heap.size
  base:∀ b g,own b=some g→B≤b
  below:RowKit.Below B w0.w w
  hB:B≤w0.w.heap.size
  imm:∀ b,A b→w0.A b∨B≤b
  names:∀ g,(∃ s,ρ g=some s)→h g≠.none
  glob:Kr A w
structure Y6 (A:Nat→Prop) (ρ:Xo) (w:World) (A':Nat→Prop) (ρ':Xo) (w':World):Prop where
  hA:∀ b,A b→A' b
  hρ:∀ g s,ρ g=some s→ρ' g=some s
  hw:∀ b,A b→w'.heap[b]?=w.heap[b]?
theorem Y6.refl (A:Nat→Prop) (ρ:Xo) (w:World):Y6 A ρ w A ρ w:=⟨fun _ h=>h,fun _ _ h=>h,fun _ _=>rfl⟩
theorem Y6.trans {A A' A'':Nat→Prop} {ρ ρ' ρ'':Xo} {w w' w'':World} (h:Y6 A ρ w A' ρ' w') (k:Y6 A' ρ' w' A'' ρ'' w''):Y6 A ρ w A'' ρ'' w'' :=
  ⟨fun b hb=>k.hA b (h.hA b hb),fun g s hs=>k.hρ g s (h.hρ g s hs),fun b hb=>(k.hw b (h.hA b hb)).trans (h.hw b hb)⟩
theorem Y6.repV {A A':Nat→Prop} {ρ ρ':Xo} {w w':World} (h:Y6 A ρ w A' ρ' w') {u:SV} {v:Value} (hv:Zo A ρ w u v):Zo A' ρ' w' u v :=
  Zo.mono h.hA h.hρ h.hw u hv
theorem Y6.repC {A A':Nat→Prop} {ρ ρ':Xo} {w w':World} (h:Y6 A ρ w A' ρ' w') {τ:Ty} {x:den τ} {ov:Ov} {cs:List Value} (hv:Zp A ρ w τ x ov cs):Zp A' ρ' w' τ x ov cs :=
  Zp.mono h.hA h.hρ h.hw τ hv
theorem St.turn {B:Nat} {w0:Q3} {A A':Nat→Prop} {ρ ρ':Xo} {own own':Nat→Option Nat} {w w':World} {h h':Nat→Obj} (st:St B w0 A ρ own w h) (G:Nat→Prop)
    (hl:Y6 A ρ w A' ρ' w') (hw:∀ b g,own b=some g→¬ G g→w'.heap[b]?=w.heap[b]?) (ho:∀ b g,own b=some g→¬ G g→own' b=some g)
    (hn:∀ g,¬ G g→ρ g=none→ρ' g=none) (hh:∀ g,¬ G g→h' g=h g) (hG:∀ g,G g→Kj A' ρ' own' w' g (h' g)) (hGn:∀ g,G g→h' g≠.none)
    (hap:∀ b g,own' b=some g→¬ A' b) (hold:∀ b,A' b→b<w'.heap.size) (holdO:∀ b g,own' b=some g→b<w'.heap.size) (hbase:∀ b g,own' b=some g→B≤b)
    (hbelow:RowKit.Below B w w') (himm:∀ b,A' b→A b∨B≤b):St B w0 A' ρ' own' w' h' where
  glob:=st.glob.mono hl.hA hl.hw
  objs g:=by
    by_cases hg:G g
    · exact hG g hg
    · rw [hh g hg]
      refine Kj.mono hl.hA hl.hρ (fun b hb => ?_) (fun b hb=>ho b g hb hg) (hn g hg) (st.objs g)
      rcases hb with hb | hb
      · exact hl.hw b hb
      · exact hw b g hb hg
  apart:=hap
  old:=hold
  oldO:=holdO
  base:=hbase
  below:=st.below.trans hbelow
  hB:=st.hB
  imm b hb:=(himm b hb).elim (st.imm b) .inr
  names g hg:=by
    by_cases hg':G g
    · exact hGn g hg'
    · rw [hh g hg']
      refine st.names g ?_
      cases hr:ρ g with
      | none=>obtain ⟨s,hs⟩:=hg; rw [hn g hg' hr] at hs; cases hs
      | some s=>exact ⟨s,rfl⟩
end Go.Proofs.YtpemapoblhleoaaGreatDoor.Ghost
namespace Go.Proofs.YtpemapoblhleoaaGreatDoor.Ghost
open Go
mutual
def zeroCells:Ty→List Value
  | .bool=>[.bool false]
  | .int k=>[.int k 0]
  | .str=>[.string ⟨#[]⟩]
  | .sl _=>[.slice none 0 0]
  | .arr n e=>Cq n (zeroCells e)
  | .st fs=>Gm fs
def Gm:List Ty→List Value
  | []=>[]
  | t :: r=>zeroCells t ++ Gm r
def Cq:Nat→List Value→List Value
  | 0,_=>[]
  | n+1,l=>l ++ Cq n l
end
def AGr:Value→Value→Bool
  | .bool a,.bool b=>a == b
  | .int k a,.int k' b=>decide (k=k') && decide (a=b)
  | .string a,.string b=>Nat.beq a.data.size 0 && Nat.beq b.data.size 0
  | .slice none 0 0,.slice none 0 0=>true
  | .nilFunc,.nilFunc=>true
  | _,_=>false
def Ej:List Value→List Value→Bool
  | [],[]=>true
  | a :: r,b :: s=>AGr a b && Ej r s
  | _,_=>false
theorem AOc:{a b:Value}→AGr a b=true→a=b
  | .bool a,.bool b,h=>by simp [AGr] at h; rw [h]
  | .int k a,.int k' b,h=>by simp [AGr] at h; rw [h.1,h.2]
  | .string a,.string b,h=>by
    simp only [AGr,Bool.and_eq_true] at h
    have h1:=Nat.eq_of_beq_eq_true h.1
    have h2:=Nat.eq_of_beq_eq_true h.2
    obtain ⟨⟨l⟩⟩:=a
    obtain ⟨⟨m⟩⟩:=b
    simp at h1 h2
    subst h1; subst h2; rfl
  | .slice none 0 0,.slice none 0 0,_=>rfl
  | .nilFunc,.nilFunc,_=>rfl
theorem Ms:{a b:List Value}→Ej a b=true→a=b
  | [],[],_=>rfl
  | a :: r,b :: s,h=>by
    simp only [Ej,Bool.and_eq_true] at h
    rw [AOc h.1,Ms h.2]
def Vg (P:Program) (t:TypeId) (n:Nat):Bool:=match P.info? t with
  | some i=>Nat.beq i.size n
  | none=>false
mutual
def X3 (P:Program):Ty→TypeId→Bool
  | .bool,t=>(match P.underlying t with | some .bool=>true | _=>false)
  | .int k,t=>(match P.underlying t with | some (.int k')=>decide (k=k') | _=>false)
  | .str,t=>(match P.underlying t with | some .string=>true | _=>false)
  | .sl e,t=>(match P.underlying t with | some (.slice e')=>X3 P e e' && Vg P e' (Zl e) && Nat.blt 0 (Zl e) | _=>false)
  | .arr n e,t=>(match P.underlying t with | some (.array n' e')=>Nat.beq n' n && X3 P e e' && Vg P e' (Zl e) && Nat.blt 0 (Zl e) | _=>false)
  | .st fs,t=>(match P.underlying t with | some (.struct l)=>Jv P fs 0 l.toList | _=>false)
def Jv (P:Program):List Ty→Nat→List Field→Bool
  | [],_,[]=>true
  | t :: r,o,f :: s=>Nat.beq f.offset o && Vg P f.type (Zl t) && Nat.blt 0 (Zl t) && X3 P t f.type && Jv P r (o+Zl t) s
  | _,_,_=>false
end
def Ij (P:Program) (τ:Ty) (t:TypeId):Bool:=match P.info? t with
  | some i=>(match i.zero with | some (.agg cs)=>Uv τ && Ej cs.toList (zeroCells τ) | some v => !(Uv τ) && Ej [v] (zeroCells τ) | none=>false)
  | none=>false
theorem Uq {P:Program} {t:TypeId} {n:Nat} (h:Vg P t n=true):∃ i,P.info? t=some i∧i.size=n:=by
  unfold Vg at h
  split at h
  · rename_i i hi; exact ⟨i,hi,Nat.eq_of_beq_eq_true h⟩
  · cases h
theorem AH5 {P:Program} {t:TypeId} {n:Nat} (h:Vg P t n=true):(P.info? t).map (·.size)=some n:=by
  obtain ⟨i,h1,h2⟩:=Uq h
  rw [h1]; simp [h2]
theorem Vu {P:Program} {t:TypeId} {n:Nat} (h:Vg P t n=true) (w:World):(sizeOf t).run P w=.ok n w:=by
  obtain ⟨i,h1,h2⟩:=Uq h
  simp [sizeOf,typeInfo,h1,h2]
theorem Ua {P:Program} {t:TypeId} {i:TypeInfo} (h:P.info? t=some i) (w:World):(typeInfo t).run P w=.ok i w:=by
  simp [typeInfo,h]
theorem Ch {P:Program}:{τ:Ty}→{t:TypeId}→X3 P τ t=true→∃ d,P.underlying t=some d∧d.isRow=Uv τ
  | .bool,_,h=>by simp only [X3] at h; split at h <;> simp_all [Uv,TypeDesc.isRow]
  | .int k,_,h=>by simp only [X3] at h; split at h <;> simp_all [Uv,TypeDesc.isRow]
  | .str,_,h=>by simp only [X3] at h; split at h <;> simp_all [Uv,TypeDesc.isRow]
  | .sl e,_,h=>by simp only [X3] at h; split at h <;> simp_all [Uv,TypeDesc.isRow]
  | .arr n e,_,h=>by simp only [X3] at h; split at h <;> simp_all [Uv,TypeDesc.isRow]
  | .st fs,_,h=>by simp only [X3] at h; split at h <;> simp_all [Uv,TypeDesc.isRow]
theorem B7 {P:Program} {t:TypeId} {d:TypeDesc} (h:P.underlying t=some d) (w:World):(isAgg t).run P w=.ok d.isRow w:=by
  unfold isAgg
  rw [Sem.run_bind,run_underlying h w]
  cases d <;> rfl
theorem W9 {P:Program} {τ:Ty} {t:TypeId} (h:Ij P τ t=true) (w:World):(zeroValue t).run P w=.ok (mkV τ (zeroCells τ)) w:=by
  unfold Ij at h
  cases hi:P.info? t with
  | none=>rw [hi] at h; cases h
  | some i =>
    simp only [hi] at h
    simp only [zeroValue,Sem.run_bind,Ua hi,Result.andThen_ok]
    cases hz:i.zero with
    | none=>simp [hz] at h
    | some v =>
      simp only [hz] at h
      have key:v=mkV τ (zeroCells τ):=by
        cases v with
        | agg cs =>
          simp only [Bool.and_eq_true] at h
          have:=Ms h.2
          unfold mkV
          rw [h.1,← this]
        | _ =>
          simp only [Bool.and_eq_true,Bool.not_eq_true'] at h
          have:=Ms h.2
          unfold mkV
          rw [h.1,← this]; rfl
      subst key
      rfl
theorem AGz (n:Nat) (l:List Value):(Cq n l).length=n * l.length:=by
  induction n with
  | zero=>simp [Cq]
  | succ n ih=>simp only [Cq,List.length_append,ih,Nat.add_mul,Nat.one_mul]; omega
theorem AGy (l:List Value):(n i:Nat)→i<n→cut (Cq n l) (i * l.length) l.length=l
  | 0,_,h=>by omega
  | n+1,0,_=>by simp [cut,Cq]
  | n+1,i+1,h=>by
    have:=AGy l n i (by omega)
    unfold cut at this ⊢
    rw [show (i+1) * l.length=l.length+i * l.length by rw [Nat.add_mul]; omega]
    simp only [Cq]
    rw [← List.drop_drop,List.drop_append_of_le_length (by omega),List.drop_length,List.nil_append]
    exact this
theorem Mm {α:Type} {n i:Nat} {x d:α} (h:i<n):(List.replicate n x).getD i d=x:=by
  rw [List.getD_eq_getElem?_getD,List.getElem?_replicate,if_pos h]; rfl
mutual
theorem Zp.zero (A:Nat→Prop) (ρ:Xo) (w:World):(τ:Ty)→Zp A ρ w τ (dft τ) [] (zeroCells τ)
  | .bool=>by simp only [Zp,dft,zeroCells]
  | .int k=>by simp only [Zp,dft,zeroCells]
  | .str=>by simp only [Zp,dft,zeroCells]
  | .sl e=>by
    simp only [Zp,zeroCells]
    exact ⟨none,0,0,rfl,by simp,fun _=>⟨rfl,by simp⟩⟩
  | .arr n e=>by
    have he:=Zp.zero A ρ w e
    have hl:=Zp.length e he
    simp only [Zp,zeroCells]
    refine ⟨by simp [dft],by rw [AGz,hl],fun i hi => ?_⟩
    have hc:=AGy (zeroCells e) n i hi
    rw [hl] at hc
    simp only [dft]
    change Zp A ρ w e _ _ (cut (Cq n (zeroCells e)) (i * Zl e) (Zl e))
    rw [Mm hi,hc]
    exact he
  | .st fs=>by simp only [Zp,zeroCells]; exact Xw.zero A ρ w fs 0
theorem Xw.zero (A:Nat→Prop) (ρ:Xo) (w:World):(fs:List Ty)→(j:Nat)→Xw A ρ w fs j (BDa fs) [] (Gm fs)
  | [],_=>by simp only [Xw,Gm]
  | t :: r,j=>by
    have ht:=Zp.zero A ρ w t
    have hl:=Zp.length t ht
    simp only [Xw,Gm]
    exact ⟨by rw [← hl,List.take_left]; exact ht,by rw [← hl,List.drop_left]; exact Xw.zero A ρ w r (j+1)⟩
end
def Mx:(τ:Ty)→den τ→Value→Bool
  | .bool,x,.bool b=>x == b
  | .int k,x,.int k' n=>decide (k=k') && decide (x=n)
  | .str,x,.string s=>decide (x.data.toList=s.data.toList)
  | .sl _,x,.slice _ 0 _=>List.isEmpty x
  | _,_,_=>false
def Xu:Opd→Operand→Bool
  | .t i,.tmp j=>Nat.beq i j
  | .g k,.global g=>Nat.beq k g
  | .c τ x,.const v=>Mx τ x v
  | .f f,.func g=>Nat.beq f g
  | .nf,.const .nilFunc=>true
  | _,_=>false
def Vi:List Opd→List Operand→Bool
  | [],[]=>true
  | x :: r,y :: s=>Xu x y && Vi r s
  | _,_=>false
def Xp (A:Nat→Prop) (ρ:Xo) (w:World) (s:Nat→SV) (a:Act):Prop:=∀ i,Zo A ρ w (s i) (a.eval (.tmp i))
theorem AFw {A:Nat→Prop} {ρ:Xo} {w:World}:(τ:Ty)→(x:den τ)→(v:Value)→Mx τ x v=true→Zo A ρ w (.dat τ x []) v
  | .bool,x,.bool b,h=>by simp only [Mx,beq_iff_eq] at h; subst h; simp only [Zo,Zp]; exact ⟨_,rfl,rfl⟩
  | .int k,x,.int k' n,h=>by
    simp only [Mx,Bool.and_eq_true,decide_eq_true_eq] at h
    obtain ⟨rfl,rfl⟩:=h
    simp only [Zo,Zp]; exact ⟨_,rfl,rfl⟩
  | .str,x,.string s,h=>by
    simp only [Mx,decide_eq_true_eq] at h
    have:x=s:=by
      obtain ⟨⟨l⟩⟩:=x
      obtain ⟨⟨m⟩⟩:=s
      simpa using h
    subst this
    simp only [Zo,Zp]; exact ⟨_,rfl,rfl⟩
  | .sl e,x,.slice a 0 c,h=>by
    simp only [Mx,List.isEmpty_iff] at h
    subst h
    simp only [Zo,Zp]
    exact ⟨[.slice a 0 c],⟨a,0,c,rfl,by simp,fun _=>⟨rfl,by simp⟩⟩,rfl⟩
theorem Yl {A:Nat→Prop} {ρ:Xo} {w:World} {s:Nat→SV} {a:Act} (hs:Xp A ρ w s a):{x:Opd}→{y:Operand}→Xu x y=true→Zo A ρ w (evO s x) (a.eval y)
  | .t i,.tmp j,h=>by
    have:=Nat.eq_of_beq_eq_true (by simpa only [Xu] using h)
    subst this
    exact hs i
  | .c τ x,.const v,h=>AFw τ x v h
  | .f f,.func g,h=>by
    have:=Nat.eq_of_beq_eq_true (by simpa only [Xu] using h)
    subst this
    simp only [evO,Zo]
    exact ⟨[],rfl,by simp only [Zw]⟩
  | .nf,.const .nilFunc,_=>by simp only [evO,Zo]; rfl
  | .g k,.global g,h=>by
    have:=Nat.eq_of_beq_eq_true (by simpa only [Xu] using h)
    subst this
    simp only [evO,Zo]; rfl
theorem Pc {A:Nat→Prop} {ρ:Xo} {w:World} {s:Nat→SV} {a:Act} (hs:Xp A ρ w s a):{xs:List Opd}→{ys:List Operand}→Vi xs ys=true→Zw A ρ w (xs.map (evO s)) (ys.map a.eval)
  | [],[],_=>by simp only [List.map_nil,Zw]
  | x :: r,y :: t,h=>by
    simp only [Vi,Bool.and_eq_true] at h
    simp only [List.map_cons,Zw]
    exact ⟨_,_,rfl,Yl hs h.1,Pc hs h.2⟩
end Go.Proofs.YtpemapoblhleoaaGreatDoor.Ghost
namespace Go.Proofs.YtpemapoblhleoaaGreatDoor.Ghost
open Go
def Y4 (h:Nat→Obj):Eff→Nat→Obj
  | []=>h
  | (g,o) :: r=>Y4 (fun i=>if i=g then o else h i) r
theorem Tr:(h:Qz)→(g i:Nat)→(o:Obj)→X2 (Pm h g o) i=if i=g then o else X2 h i
  | [],0,0,o=>by simp [Pm,X2]
  | [],0,i+1,o=>by simp [Pm,X2]
  | [],g+1,0,o=>by simp [Pm,X2]
  | [],g+1,i+1,o=>by
    have:=Tr [] g i o
    simp only [Pm,X2,this,Nat.add_right_cancel_iff]
  | x :: r,0,0,o=>by simp [Pm,X2]
  | x :: r,0,i+1,o=>by simp [Pm,X2]
  | x :: r,g+1,0,o=>by simp [Pm,X2]
  | x :: r,g+1,i+1,o=>by
    have:=Tr r g i o
    simp only [Pm,X2,this,Nat.add_right_cancel_iff]
theorem N8 (h:Qz):(e:Eff)→X2 (Om h e)=Y4 (X2 h) e
  | []=>rfl
  | (g,o) :: r=>by
    have h1:=N8 (Pm h g o) r
    simp only [Om,Y4,h1]
    congr 1
    funext i
    rw [Tr]
def Z3 (P:Program) (o:Oper) (a:Act) (w:World) (B:Nat) (w0:Q3) (A:Nat→Prop) (ρ:Xo) (v:SV) (h':Nat→Obj):Prop :=
  ∀ (next:Act→World→Prop) (Q:Exit→Act→World→Prop),
    (∀ v' w' A' ρ' own',St B w0 A' ρ' own' w' h'→Y6 A ρ w A' ρ' w'→Zo A' ρ' w' v v'→next (a.put o.dst v') w')→o.wp P a w next Q
section
variable {P:Program} {o:Oper} {a:Act} {w:World} {B:Nat} {w0:Q3} {A:Nat→Prop} {ρ:Xo} {own:Nat→Option Nat} {h:Nat→Obj} {s:Nat→SV}
theorem Z3.pure {v:SV} {v':Value} (st:St B w0 A ρ own w h) (he:(execOp a.eval o).run P w=.ok (.value v') w) (hv:Zo A ρ w v v') :
    Z3 P o a w B w0 A ρ v h:=fun next Q K=>by
  unfold Oper.wp; rw [he]; exact K v' w A ρ own st (Y6.refl ..) hv
theorem Z3.value {v:SV} {v':Value} {w':World} {A':Nat→Prop} {ρ':Xo} {own':Nat→Option Nat} {h':Nat→Obj} (he:(execOp a.eval o).run P w=.ok (.value v') w')
    (st:St B w0 A' ρ' own' w' h') (hl:Y6 A ρ w A' ρ' w') (hv:Zo A' ρ' w' v v'):Z3 P o a w B w0 A ρ v h':=fun next Q K=>by
  unfold Oper.wp; rw [he]; exact K v' w' A' ρ' own' st hl hv
theorem Z3.skip {v:SV} {w':World} {A':Nat→Prop} {ρ':Xo} {own':Nat→Option Nat} {h':Nat→Obj} (he:(execOp a.eval o).run P w=.ok .skip w')
    (st:St B w0 A' ρ' own' w' h') (hl:Y6 A ρ w A' ρ' w') (hv:Zo A' ρ' w' v undef):Z3 P o a w B w0 A ρ v h':=fun next Q K=>by
  unfold Oper.wp; rw [he]; exact K undef w' A' ρ' own' st hl hv
theorem Gj {k:IntKind} {n:Int} {ov:Ov} {v:Value} (h:Zo A ρ w (.dat (.int k) n ov) v):v=.int k n:=by
  simp only [Zo,Zp] at h; obtain ⟨_,rfl,rfl⟩:=h; rfl
theorem Km {b:Bool} {ov:Ov} {v:Value} (h:Zo A ρ w (.dat .bool b ov) v):v=.bool b:=by
  simp only [Zo,Zp] at h; obtain ⟨_,rfl,rfl⟩:=h; rfl
theorem G8 {k:IntKind} {n:Int} {ov:Ov}:Zo A ρ w (.dat (.int k) n ov) (.int k n):=by
  simp only [Zo,Zp]; exact ⟨_,rfl,rfl⟩
theorem Gg {b:Bool} {ov:Ov}:Zo A ρ w (.dat .bool b ov) (.bool b):=by
  simp only [Zo,Zp]; exact ⟨_,rfl,rfl⟩
theorem AE3 {v:Value} (h:Zo A ρ w .und v):v=undef:=by simpa only [Zo] using h
def AC4 (o:Oper) (x:Opd):Bool:=match o.op with
  | .move y=>Xu x y
  | .assign y=>Xu x y
  | _=>false
variable (st:St B w0 A ρ own w h) (hs:Xp A ρ w s a)
include st hs
theorem AJq {x:Opd} (hc:AC4 o x=true):Z3 P o a w B w0 A ρ (evO s x) h:=by
  unfold AC4 at hc
  split at hc
  · rename_i y hy
    exact Z3.pure st (by simp [execOp,hy]) (Yl hs hc)
  · rename_i y hy
    exact Z3.pure st (by simp [execOp,hy]) (Yl hs hc)
  · cases hc
def C3 (o:Oper) (c x y:Opd):Bool:=match o.op with
  | .pick c' x' y'=>Xu c c' && Xu x x' && Xu y y'
  | _=>false
omit st hs in
theorem ADr {c x y:Opd} (hc:C3 o c x y=true):∃ c' x' y',o.op=.pick c' x' y'∧Xu c c'=true∧Xu x x'=true∧Xu y y'=true:=by
  unfold C3 at hc
  split at hc
  · rename_i c' x' y' ho
    simp only [Bool.and_eq_true] at hc
    exact ⟨c',x',y',ho,hc.1.1,hc.1.2,hc.2⟩
  · cases hc
theorem E9 {c x y:Opd} (hc:C3 o c x y=true) {t:Bool} {ov:Ov} (ht:evO s c=.dat .bool t ov) {v:SV}
    (hv:∀ u u',Zo A ρ w (evO s x) u→Zo A ρ w (evO s y) u'→Zo A ρ w v (if t then u else u')):Z3 P o a w B w0 A ρ v h:=by
  obtain ⟨c',x',y',ho,h1,h2,h3⟩:=ADr hc
  have k1:=Yl hs h1
  rw [ht] at k1
  have k1:=Km k1
  exact Z3.pure st (by simp [execOp,ho,k1,asBool]) (hv _ _ (Yl hs h2) (Yl hs h3))
def ADz (o:Oper) (op:BinOp) (x y:Opd):Bool:=match o.op with
  | .binOp op' _ x' y' _=>decide (op'=op) && Xu x x' && Xu y y'
  | _=>false
omit st hs in
theorem AEu {op:BinOp} {x y:Opd} (hc:ADz o op x y=true):∃ t x' y' t',o.op=.binOp op t x' y' t'∧Xu x x'=true∧Xu y y'=true:=by
  unfold ADz at hc
  split at hc
  · rename_i op' t x' y' t' ho
    simp only [Bool.and_eq_true,decide_eq_true_eq] at hc
    obtain ⟨⟨rfl,h1⟩,h2⟩:=hc
    exact ⟨t,x',y',t',ho,h1,h2⟩
  · cases hc
omit st hs in
theorem Ct (op:BinOp) (t:TypeId) (x y:Operand) (k k':IntKind) (m n:Int):(eqGuard op t x y (.int k m) (.int k' n)).run P w=.ok () w:=by
  unfold eqGuard; cases op <;> rfl
omit st hs in
theorem P8 (op:BinOp) (t:TypeId) (x y:Operand) (m n:Bool):(eqGuard op t x y (.bool m) (.bool n)).run P w=.ok () w:=by
  unfold eqGuard; cases op <;> rfl
omit st hs in
theorem Nh (op:BinOp) (t:TypeId) (x y:Operand) (m n:ByteArray):(eqGuard op t x y (.string m) (.string n)).run P w=.ok () w:=by
  unfold eqGuard; cases op <;> rfl
theorem AN6 {R:Type} {op:BinOp} {x y:Opd} {K:SV→Option R} {r:R}
    (hc:ADz o op x y=true) (hg:AKz op (evO s x) (evO s y) K=some r) :
    ∃ v,K v=some r∧Z3 P o a w B w0 A ρ v h:=by
  obtain ⟨t,x',y',t',ho,h1,h2⟩:=AEu hc
  have k1:=Yl hs h1
  have k2:=Yl hs h2
  unfold AKz at hg
  split at hg
  · rename_i k m ov k' n ov' e1 e2
    rw [e1] at k1; rw [e2] at k2
    have k1:=Gj k1
    have k2:=Gj k2
    split at hg
    · rename_i hk
      subst hk
      have fin:∀ v:Value,(Go.binOp op t (.int k m) (.int k n)).run P w=.ok v w→(execOp a.eval o).run P w=.ok (.value v) w:=fun v hv=>by
        simp only [execOp,ho,k1,k2,Sem.run_bind,Ct,Result.andThen_ok,hv,Sem.run_pure]
      unfold Bw at hg
      split at hg
      · exact ⟨_,hg,Z3.pure st (fin _ (by simp [Go.binOp,Op.intArith])) G8⟩
      · exact ⟨_,hg,Z3.pure st (fin _ (by simp [Go.binOp,Op.intArith])) G8⟩
      · exact ⟨_,hg,Z3.pure st (fin _ (by simp [Go.binOp,Op.intArith])) G8⟩
      · split at hg
        · cases hg
        · rename_i hn
          exact ⟨_,hg,Z3.pure st (fin _ (by simp [Go.binOp,Op.intDiv,hn])) G8⟩
      · split at hg
        · cases hg
        · rename_i hn
          exact ⟨_,hg,Z3.pure st (fin _ (by simp [Go.binOp,Op.intDiv,hn])) G8⟩
      · exact ⟨_,hg,Z3.pure st (fin _ (by simp [Go.binOp,Op.intCmp]; try rfl)) Gg⟩
      · exact ⟨_,hg,Z3.pure st (fin _ (by simp [Go.binOp,Op.intCmp,bne]; try rfl)) Gg⟩
      · exact ⟨_,hg,Z3.pure st (fin _ (by simp [Go.binOp,Op.intCmp]; try rfl)) Gg⟩
      · exact ⟨_,hg,Z3.pure st (fin _ (by simp [Go.binOp,Op.intCmp]; try rfl)) Gg⟩
      · exact ⟨_,hg,Z3.pure st (fin _ (by simp [Go.binOp,Op.intCmp]; try rfl)) Gg⟩
      · exact ⟨_,hg,Z3.pure st (fin _ (by simp [Go.binOp,Op.intCmp]; try rfl)) Gg⟩
      · cases hg
    · cases hg
  · cases hg
end
end Go.Proofs.YtpemapoblhleoaaGreatDoor.Ghost
namespace Go.Proofs.YtpemapoblhleoaaGreatDoor.Ghost
open Go
section
variable {P:Program} {o:Oper} {a:Act} {w:World} {B:Nat} {w0:Q3} {A:Nat→Prop} {ρ:Xo} {own:Nat→Option Nat} {h:Nat→Obj} {s:Nat→SV}
def AHd (o:Oper) (x:Opd):Bool:=match o.op with
  | .unOp .not _ y=>Xu x y
  | _=>false
def AG5 (o:Oper) (x:Opd):Bool:=match o.op with
  | .unOp .neg _ y=>Xu x y
  | _=>false
def isI (P:Program) (k:IntKind) (t:TypeId):Bool:=match P.underlying t with
  | some (.int k')=>decide (k'=k)
  | _=>false
def ACl (P:Program) (o:Oper) (k:IntKind) (x:Opd):Bool:=match o.op with
  | .convert src dst y=>isI P k dst && (P.underlying src).isSome && Xu x y
  | _=>false
def Ih (o:Oper) (x:Opd) (i:Nat):Bool:=match o.op with
  | .extract y j=>Nat.beq i j && Xu x y
  | _=>false
def ACo (o:Oper) (f:FuncId) (caps:List Opd):Bool:=match o.op with
  | .makeFunc (.func g) first captured=>Nat.beq f g && first.toList.isEmpty && Vi caps captured.toList
  | _=>false
def Ma (o:Oper) (b:Builtin→Bool) (xs:List Opd):Bool:=match o.op with
  | .call c=>(match c.callee with | .builtin b'=>b b' | _=>false) && Vi xs c.args.toList
  | _=>false
def ANu (P:Program) (o:Oper):Bool:=match o.op with
  | .call c=>(match c.argTypes.toList with
    | t :: _=>(match P.underlying t with | some .string=>true | _=>false)
    | []=>false)
  | _=>false
def AMy (P:Program) (o:Oper):Bool:=match o.op with
  | .call c=>(match c.argTypes.toList with | t :: _=>(match P.underlying t with | some (.slice _)=>true | _=>false) | _=>false)
  | _=>false
theorem AMc {k:IntKind} {t:TypeId} (h:isI P k t=true):P.underlying t=some (.int k):=by
  unfold isI at h
  split at h
  · rename_i k' hk; rw [hk]; simp at h; rw [h]
  · cases h
variable (st:St B w0 A ρ own w h) (hs:Xp A ρ w s a)
include st hs
theorem AMg {x:Opd} (hc:AHd o x=true) {b:Bool} {ov:Ov} (hx:evO s x=.dat .bool b ov):Z3 P o a w B w0 A ρ (.dat .bool (!b) []) h:=by
  unfold AHd at hc
  split at hc
  · rename_i t y ho
    have k:=Yl hs hc
    rw [hx] at k
    have k:=Km k
    exact Z3.pure st (by simp [execOp,ho,k,Op.unary]) Gg
  · cases hc
theorem AN1 {x:Opd} (hc:AG5 o x=true) {k:IntKind} {n:Int} {ov:Ov} (hx:evO s x=.dat (.int k) n ov):Z3 P o a w B w0 A ρ (.dat (.int k) (k.wrap (0 - n)) []) h:=by
  unfold AG5 at hc
  split at hc
  · rename_i t y ho
    have k1:=Yl hs hc
    rw [hx] at k1
    have k1:=Gj k1
    exact Z3.pure st (v':=.int k (k.wrap (0 - n))) (by simp only [execOp,ho,k1,Op.unary,Op.intArith,Sem.run_bind,Sem.run_pure,Result.andThen_ok]) G8
  · cases hc
theorem AKu {x:Opd} {k:IntKind} (hc:ACl P o k x=true) {k':IntKind} {n:Int} {ov:Ov} (hx:evO s x=.dat (.int k') n ov):Z3 P o a w B w0 A ρ (.dat (.int k) (k.wrap n) []) h:=by
  unfold ACl at hc
  split at hc
  · rename_i src dst y ho
    simp only [Bool.and_eq_true] at hc
    have k1:=Yl hs hc.2
    rw [hx] at k1
    have k1:=Gj k1
    obtain ⟨d,hd⟩:=Option.isSome_iff_exists.1 hc.1.2
    have hi:=AMc hc.1.1
    refine Z3.pure st (v':=.int k (k.wrap n)) ?_ G8
    simp only [execOp,ho,k1,convert,Sem.run_bind,run_underlying hd w,run_underlying hi w,Result.andThen_ok,Conv.intToInt,Sem.run_pure]
  · cases hc
theorem AEb {x:Opd} {i:Nat} (hc:Ih o x i=true) {us:List SV} {u:SV} (hx:evO s x=.tup us) (hu:us[i]?=some u):Z3 P o a w B w0 A ρ u h:=by
  unfold Ih at hc
  split at hc
  · rename_i y j ho
    simp only [Bool.and_eq_true] at hc
    have hij:=Nat.eq_of_beq_eq_true hc.1
    subst hij
    have k1:=Yl hs hc.2
    rw [hx] at k1
    simp only [Zo] at k1
    obtain ⟨vs,k1,k2⟩:=k1
    have get:∀ (us:List SV) (vs:List Value) (i:Nat),Zw A ρ w us vs→us[i]?=some u→∃ v,vs[i]?=some v∧Zo A ρ w u v:=by
      intro us
      induction us with
      | nil=>intro vs i _ h; simp at h
      | cons u' r ih =>
        intro vs i h1 h2
        simp only [Zw] at h1
        obtain ⟨v,vs',rfl,h3,h4⟩:=h1
        cases i with
        | zero=>simp at h2; subst h2; exact ⟨v,by simp,h3⟩
        | succ i=>simpa using ih vs' i h4 (by simpa using h2)
    obtain ⟨v,m1,m2⟩:=get us vs i k2 hu
    refine Z3.pure st (v':=v) ?_ m2
    simp [execOp,ho,k1,Instr.extract,m1]
  · cases hc
theorem AJr {f:FuncId} {caps:List Opd} (hc:ACo o f caps=true):Z3 P o a w B w0 A ρ (.clo f (caps.map (evO s))) h:=by
  unfold ACo at hc
  split at hc
  · rename_i g first captured ho
    simp only [Bool.and_eq_true,List.isEmpty_iff] at hc
    have hij:=Nat.eq_of_beq_eq_true hc.1.1
    subst hij
    have k1:=Pc hs hc.2
    have hf:first = #[]:=by simpa using hc.1.2
    subst hf
    refine Z3.pure st (v':=.func (.func f) #[] (captured.map a.eval)) ?_ ?_
    · simp [execOp,ho,Instr.makeFunc]
    · simp only [Zo]
      exact ⟨_,by rw [← Array.toList_map],k1⟩
  · cases hc
omit st hs in
theorem Rm {b:Builtin→Bool} {xs:List Opd} (hc:Ma o b xs=true):∃ c b',o.op=.call c∧c.callee=.builtin b'∧b b'=true∧Vi xs c.args.toList=true:=by
  unfold Ma at hc
  split at hc
  · rename_i c ho
    simp only [Bool.and_eq_true] at hc
    cases hb:c.callee with
    | builtin b'=>simp only [hb] at hc; exact ⟨c,b',ho,hb,hc.1,hc.2⟩
    | value f=>simp [hb] at hc
    | invoke f m=>simp [hb] at hc
  · cases hc
omit st hs in
theorem Tb {c:Call} {b:Builtin} (ho:o.op=.call c) (hb:c.callee=.builtin b) :
    (execOp a.eval o).run P w=(builtin b c.argTypes o.type (c.args.map fun | .const _=>true | _=>false) (c.args.map a.eval)).run P w:=by
  simp [execOp,ho,Go.resolve,hb,invoke]; rfl
theorem AJ8 {x:Opd} (hc:Ma o (fun | .len=>true | _=>false) [x]=true) (ht:ANu P o=true) {y:ByteArray} {ov:Ov} (hx0:evO s x=.dat .str y ov):Z3 P o a w B w0 A ρ (.dat (.int .i64) ((ByteArray.size y:Nat):Int) []) h:=by
  obtain ⟨c,b,ho,hb,hbb,hx⟩:=Rm hc
  cases b <;> simp at hbb
  simp only [ANu,ho] at ht
  have hx':∃ y,c.args.toList=[y]∧Xu x y=true:=by
    cases hl:c.args.toList with
    | nil=>rw [hl] at hx; simp [Vi] at hx
    | cons y r=>cases r with
      | nil=>rw [hl] at hx; simp [Vi] at hx; exact ⟨y,rfl,hx⟩
      | cons z r=>rw [hl] at hx; simp [Vi] at hx
  obtain ⟨z,hy,hxy⟩:=hx'
  have hargs:c.args = #[z]:=by rw [← Array.toArray_toList (xs:=c.args),hy]
  cases htl:c.argTypes.toList with
  | nil=>simp [htl] at ht
  | cons t tr =>
    simp only [htl] at ht
    have ht0:c.argTypes[0]?=some t:=by rw [← Array.getElem?_toList,htl]; rfl
    have hu:P.underlying t=some .string:=by
      split at ht
      · rename_i he; exact he
      · cases ht
    have k1:=Yl hs hxy
    rw [hx0] at k1
    simp only [Zo,Zp] at k1
    obtain ⟨cs,rfl,hv⟩:=k1
    have hv:a.eval z=.string y:=hv
    refine Z3.pure st (v':=.int .i64 ((ByteArray.size y:Nat):Int)) ?_ G8
    rw [Tb ho hb,hargs]
    simp only [builtin,Builtin.len_,List.map_toArray,List.map_cons,List.map_nil,hv,ht0,Sem.run_bind]
    simp [run_underlying hu w,goInt]
theorem AMs {x:Opd} (hc:Ma o (fun | .len=>true | _=>false) [x]=true) (ht:AMy P o=true) {R:Type} {K:SV→Option R} {r:R} (hg:ACt h (evO s x) K=some r) :
    ∃ v,K v=some r∧Z3 P o a w B w0 A ρ v h:=by
  obtain ⟨c,b,ho,hb,hbb,hx⟩:=Rm hc
  cases b <;> simp at hbb
  simp only [AMy,ho] at ht
  have hx':∃ y,c.args.toList=[y]∧Xu x y=true:=by
    cases hl:c.args.toList with
    | nil=>rw [hl] at hx; simp [Vi] at hx
    | cons y r=>cases r with
      | nil=>rw [hl] at hx; simp [Vi] at hx; exact ⟨y,rfl,hx⟩
      | cons z r=>rw [hl] at hx; simp [Vi] at hx
  obtain ⟨y,hy,hxy⟩:=hx'
  have hargs:c.args = #[y]:=by rw [← Array.toArray_toList (xs:=c.args),hy]
  cases htl:c.argTypes.toList with
  | nil=>simp [htl] at ht
  | cons t tr =>
    simp only [htl] at ht
    have ht0:c.argTypes[0]?=some t:=by rw [← Array.getElem?_toList,htl]; rfl
    have hu:∃ e,P.underlying t=some (.slice e):=by
      split at ht
      · rename_i e he; exact ⟨e,he⟩
      · cases ht
    obtain ⟨e,hu⟩:=hu
    have k1:=Yl hs hxy
    have fin:∀ (ad:Option Addr) (n m:Nat),a.eval y=.slice ad n m→(execOp a.eval o).run P w=.ok (.value (.int .i64 n)) w:=fun ad n m hv=>by
      rw [Tb ho hb,hargs]
      simp only [builtin,Builtin.len_,List.map_toArray,List.map_cons,List.map_nil,hv,ht0,Sem.run_bind]
      simp [run_underlying hu w,goInt]
    unfold ACt at hg
    split at hg
    · rename_i el l e1
      rw [e1] at k1
      simp only [Zo,Zp] at k1
      obtain ⟨cs,⟨ad,n,m,rfl,_,h3⟩,hv⟩:=k1
      have hn:=(h3 (by simp)).1
      subst hn
      exact ⟨_,hg,Z3.pure st (fin ad _ m hv) G8⟩
    · rename_i el l0 g e1
      rw [e1] at k1
      simp only [Zo,Zp] at k1
      obtain ⟨cs,⟨ad,n,m,rfl,h2,_⟩,hv⟩:=k1
      obtain ⟨sp,ad',hr,_,heq,_⟩:=h2 g (by simp)
      have ob:=st.objs g
      split at hg
      · rename_i el' l e2
        rw [e2] at ob
        simp only [Kj,Kx] at ob
        obtain ⟨sp',hr',_,_,_,_,_,hl,_⟩:=ob
        rw [hr] at hr'
        cases hr'
        cases heq
        refine ⟨_,hg,Z3.pure st (fin _ _ _ hv) ?_⟩
        rw [hl]; exact G8
      · rename_i el' l e2
        rw [e2] at ob
        simp only [Kj,Kx] at ob
        obtain ⟨sp',hr',_,_,_,_,_,hl,_⟩:=ob
        rw [hr] at hr'
        cases hr'
        cases heq
        refine ⟨_,hg,Z3.pure st (fin _ _ _ hv) ?_⟩
        rw [hl]; exact G8
      · cases hg
    · rename_i us e1
      rw [e1] at k1
      simp only [Zo] at k1
      obtain ⟨ad,n,m,hv,hn,_⟩:=k1
      subst hn
      exact ⟨_,hg,Z3.pure st (fin _ _ _ hv) G8⟩
    · cases hg
end
end Go.Proofs.YtpemapoblhleoaaGreatDoor.Ghost
namespace Go.Proofs.YtpemapoblhleoaaGreatDoor.Ghost
open Go
mutual
theorem T6:(τ:Ty)→(p q:Xh)→(x:den τ)→(d:Dyn)→okP τ p→getP p τ x=some d→okP d.τ q→okP τ (p ++ q)∧J6 τ (p ++ q)=J6 τ p+J6 d.τ q
  | τ,[],q,x,d,_,h,hq=>by
    have:d=⟨τ,x⟩:=by cases τ <;> simpa [getP,eq_comm] using h
    subst this
    have h0:J6 τ []=0:=by cases τ <;> rfl
    exact ⟨hq,by rw [h0,Nat.zero_add]; rfl⟩
  | .st fs,i :: p,q,x,d,hk,h,hq=>by
    simp only [okP] at hk
    simp only [getP] at h
    simp only [List.cons_append,okP,J6]
    exact Bj fs i p q x d hk h hq
  | .arr n e,i :: p,q,x,d,hk,h,hq=>by
    simp only [okP] at hk
    simp only [getP] at h
    simp only [List.cons_append,okP,J6]
    have:=T6 e p q _ d hk.2 h hq
    exact ⟨⟨hk.1,this.1⟩,by rw [this.2]; omega⟩
  | .bool,_ :: _,_,_,_,hk,_,_=>by simp [okP] at hk
  | .int _,_ :: _,_,_,_,hk,_,_=>by simp [okP] at hk
  | .str,_ :: _,_,_,_,hk,_,_=>by simp [okP] at hk
  | .sl _,_ :: _,_,_,_,hk,_,_=>by simp [okP] at hk
theorem Bj:(fs:List Ty)→(i:Nat)→(p q:Xh)→(x:Hz fs)→(d:Dyn)→okF fs i p →
    (match Ug fs i x with | some d=>getP p d.τ d.x | none=>none)=some d→okP d.τ q→okF fs i (p ++ q)∧Ue fs i (p ++ q)=Ue fs i p+J6 d.τ q
  | [],_,_,_,_,_,hk,_,_=>by simp [okF] at hk
  | t :: r,0,p,q,x,d,hk,h,hq=>by
    simp only [okF] at hk
    simp only [Ug] at h
    simp only [okF,Ue]
    exact T6 t p q x.1 d hk h hq
  | t :: r,n+1,p,q,x,d,hk,h,hq=>by
    simp only [okF] at hk
    simp only [Ug] at h
    simp only [okF,Ue]
    have:=Bj r n p q x.2 d hk h hq
    exact ⟨this.1,by rw [this.2]; omega⟩
end
theorem O0 {P:Program}:(fs:List Ty)→(l:List Field)→(o j:Nat)→Jv P fs o l=true→j<fs.length →
    ∃ f t,l[j]?=some f∧fs[j]?=some t∧f.offset=o+Ue fs j []∧Vg P f.type (Zl t)=true∧0<Zl t∧X3 P t f.type=true∧okF fs j []
  | [],_,_,_,_,hj=>by simp at hj
  | _ :: _,[],_,_,h,_=>by simp [Jv] at h
  | t :: r,f :: s,o,0,h,_=>by
    simp only [Jv,Bool.and_eq_true] at h
    obtain ⟨⟨⟨⟨h1,h2⟩,h3⟩,h4⟩,_⟩:=h
    have h0:J6 t []=0:=by cases t <;> rfl
    have k0:okP t []:=by cases t <;> trivial
    exact ⟨f,t,rfl,rfl,by simp only [Ue,h0]; exact Nat.eq_of_beq_eq_true h1,h2,by simpa [Nat.blt_eq] using h3,h4,k0⟩
  | t :: r,f :: s,o,j+1,h,hj=>by
    simp only [Jv,Bool.and_eq_true] at h
    obtain ⟨f',t',h1,h2,h3,h4⟩:=O0 r s (o+Zl t) j h.2 (by simpa using hj)
    exact ⟨f',t',by simpa using h1,by simpa using h2,by simp only [Ue]; omega,h4⟩
theorem ACa:(fs:List Ty)→(j:Nat)→(x:Hz fs)→(d:Dyn)→Ug fs j x=some d→fs[j]?=some d.τ
  | [],_,_,_,h=>by simp [Ug] at h
  | t :: r,0,x,d,h=>by simp [Ug] at h; subst h; rfl
  | t :: r,n+1,x,d,h=>by simp only [Ug] at h; simpa using ACa r n x.2 d h
theorem AMx {fs:List Ty} {j:Nat} {x:Hz fs} {d:Dyn} (h:getP [j] (.st fs) x=some d):Ug fs j x=some d:=by
  simp only [getP] at h
  split at h
  · rename_i d' hd
    rw [hd]
    have:getP [] d'.τ d'.x=some d':=by
      obtain ⟨τ,y⟩:=d'
      cases τ <;> rfl
    exact this.symm.trans h
  · cases h
theorem Hs {w:World} {b o:Nat} {cs:List Value} (h:w.rangeAt b o cs) (k n:Nat):w.rangeAt b (o+k) (cut cs k n):=fun j v hv=>by
  rw [Jd] at hv
  split at hv
  · have:=h (k+j) v hv
    rw [show o+(k+j)=o+k+j by omega] at this
    exact this
  · cases hv
theorem AGb (cs:Array Value) (o n:Nat):(cs.extract o (o+n))=(cut cs.toList o n).toArray:=by
  apply Array.ext'
  rw [Array.toList_extract]
  simp [cut]
section
variable {P:Program} {o:Oper} {a:Act} {w:World} {B:Nat} {w0:Q3} {A:Nat→Prop} {ρ:Xo} {own:Nat→Option Nat} {h:Nat→Obj} {s:Nat→SV}
theorem ABd {τ:Ty} {x:den τ} {ov:Ov} {cs:List Value} (hr:Zp A ρ w τ x ov cs) (ha:Uv τ=false):∃ v,cs=[v]:=by
  have:=Zp.length τ hr
  have h1:Zl τ=1:=by cases τ <;> simp [Uv] at ha <;> rfl
  rw [h1] at this
  match cs,this with
  | [v],_=>exact ⟨v,rfl⟩
theorem P6 {τ:Ty} {t:TypeId} {cs:Array Value} {off:Nat} {x:den τ} {ov:Ov} (hd:X3 P τ t=true) (hz:Vg P t (Zl τ)=true)
    (hr:Zp A ρ w τ x ov (cut cs.toList off (Zl τ))):(part t cs off).run P w=.ok (mkV τ (cut cs.toList off (Zl τ))) w:=by
  obtain ⟨d,h1,h2⟩:=Ch hd
  unfold part
  rw [Sem.run_bind,B7 h1 w,Result.andThen_ok,h2]
  cases ha:Uv τ with
  | true =>
    simp only [if_true,Sem.run_bind,Vu hz,Result.andThen_ok,Sem.run_pure,mkV,ha,AGb]
  | false =>
    obtain ⟨v,hv⟩:=ABd hr ha
    have h3:(cut cs.toList off (Zl τ))[0]?=some v:=by rw [hv]; rfl
    rw [Jd] at h3
    split at h3
    · simp only [Nat.add_zero,Array.getElem?_toList] at h3
      simp [h3,mkV,ha,hv]
    · cases h3
def AAa (P:Program) (o:Oper) (τ:Ty) (j:Nat) (x:Opd):Bool:=match o.op with
  | .field T y i=>Nat.beq i j && X3 P τ T && (match τ with | .st _=>true | _=>false) && Xu x y
  | _=>false
theorem AH1 (st:St B w0 A ρ own w h) (hs:Xp A ρ w s a) {τ:Ty} {j:Nat} {x:Opd} (hc:AAa P o τ j x=true) {y:den τ} {ov:Ov} (hx:evO s x=.dat τ y ov)
    {d:Dyn} (hg:getP [j] τ y=some d):Z3 P o a w B w0 A ρ (.dat d.τ d.x (Vk [j] ov)) h:=by
  unfold AAa at hc
  split at hc
  · rename_i T z i ho
    simp only [Bool.and_eq_true] at hc
    obtain ⟨⟨⟨hi,hd⟩,hst⟩,hxz⟩:=hc
    have hi:=Nat.eq_of_beq_eq_true hi
    subst hi
    cases τ with
    | st fs =>
      have k1:=Yl hs hxz
      rw [hx] at k1
      simp only [Zo] at k1
      obtain ⟨cs,k1,k2⟩:=k1
      simp only [mkV,Uv] at k2
      have hf:=AMx hg
      have hty:=ACa fs i y d hf
      have hlt:i<fs.length:=(List.getElem?_eq_some_iff.1 hty).1
      simp only [X3] at hd
      cases hu:P.underlying T with
      | none=>simp [hu] at hd
      | some dd =>
        cases dd with
        | struct l =>
          simp only [hu] at hd
          obtain ⟨f,t,m1,m2,m3,m4,m5,m6,m7⟩:=O0 fs l.toList 0 i hd hlt
          rw [hty] at m2
          cases m2
          have hp:=Zp.getP (.st fs) [i] k1 (by simpa only [okP] using m7) hg
          have m1':l[i]?=some f:=by rw [← Array.getElem?_toList]; exact m1
          have hoff:f.offset=J6 (.st fs) [i]:=by rw [m3,Nat.zero_add]; rfl
          rw [← hoff] at hp
          have hpart:=P6 (P:=P) (cs:=cs.toArray) (off:=f.offset) m6 m4 (by simpa using hp)
          refine Z3.pure st (v':=mkV d.τ (cut cs f.offset (Zl d.τ))) ?_ (by simp only [Zo]; exact ⟨_,hp,rfl⟩)
          simp only [execOp,ho,k2,Instr.field,Sem.run_bind,run_underlying hu w,Result.andThen_ok,m1',asAgg,Sem.run_pure,hpart]
        | _=>simp [hu] at hd
    | _=>simp at hst
  · cases hc
end
end Go.Proofs.YtpemapoblhleoaaGreatDoor.Ghost
namespace Go.Proofs.YtpemapoblhleoaaGreatDoor.Ghost
open Go
section
variable {P:Program} {o:Oper} {a:Act} {w:World} {B:Nat} {w0:Q3} {A:Nat→Prop} {ρ:Xo} {own:Nat→Option Nat} {h:Nat→Obj} {s:Nat→SV}
def Gk (P:Program):List Nat→Nat→List Field→Bool
  | [],_,[]=>true
  | n :: r,o,f :: s=>Nat.beq f.offset o && Vg P f.type n && Nat.blt 0 n && Gk P r (o+n) s
  | _,_,_=>false
def ARj (P:Program):FT→TypeId→Bool
  | .d (.st fs),t=>X3 P (.st fs) t
  | .d _,_=>false
  | .v sizes,t=>(match P.underlying t with | some (.struct l)=>Gk P sizes 0 l.toList | _=>false)
def Od (P:Program) (o:Oper) (t:FT) (j:Nat) (x:Opd):Bool:=match o.op with
  | .fieldAddr T y i=>Nat.beq i j && ARj P t T && Xu x y
  | _=>false
def W8:List Nat→Nat→Nat
  | [],_=>0
  | _ :: _,0=>0
  | n :: r,j+1=>n+W8 r j
theorem O6:(sizes:List Nat)→(l:List Field)→(o j:Nat)→Gk P sizes o l=true→j<sizes.length →
    ∃ f n,l[j]?=some f∧f.offset=o+W8 sizes j∧Vg P f.type n=true∧0<n
  | [],_,_,_,_,hj=>by simp at hj
  | _ :: _,[],_,_,h,_=>by simp [Gk] at h
  | n :: r,f :: s,o,0,h,_=>by
    simp only [Gk,Bool.and_eq_true] at h
    exact ⟨f,n,rfl,by rw [show W8 (n :: r) 0=0 from rfl,Nat.add_zero]; exact Nat.eq_of_beq_eq_true h.1.1.1,h.1.1.2,by simpa [Nat.blt_eq] using h.1.2⟩
  | n :: r,f :: s,o,j+1,h,hj=>by
    simp only [Gk,Bool.and_eq_true] at h
    obtain ⟨f',n',h1,h2,h3⟩:=O6 r s (o+n) j h.2 (by simpa using hj)
    exact ⟨f',n',by simpa using h1,by simp only [W8]; omega,h3⟩
theorem AGd {T:TypeId} {l:Array Field} {i:Nat} {f:Field} {n b k:Nat} (hu:P.underlying T=some (.struct l)) (hf:l[i]?=some f) (hn:Vg P f.type n=true) (hp:0<n) :
    (Instr.fieldAt T (.pointer (some ⟨b,k,none⟩)) i).run P w=.ok (.pointer (some ⟨b,k+f.offset,none⟩)) w:=by
  have:n≠0:=by omega
  simp only [Instr.fieldAt,Sem.run_bind,run_underlying hu w,Result.andThen_ok,hf,Instr.sureAddr,Sem.run_pure,fieldPlace,Vu hn,this,if_false,Addr.add_mid]
theorem Ev:{a b:List Nat}→Yz.natsEq a b=true→a=b
  | [],[],_=>rfl
  | x :: r,y :: s,h=>by
    simp only [Yz.natsEq,Bool.and_eq_true] at h
    rw [Nat.eq_of_beq_eq_true h.1,Ev h.2]
theorem Pi:(us:List SV)→(Yz.sizesV us).length=us.length
  | []=>rfl
  | _ :: r=>by simp [Yz.sizesV,Pi r]
theorem M9:(us:List SV)→(j:Nat)→Up us j []=W8 (Yz.sizesV us) j
  | [],_=>rfl
  | u :: r,0=>by
    have:Td u []=0:=by cases u <;> rfl
    simp only [Up,this,Yz.sizesV,W8]
  | u :: r,j+1=>by simp only [Up,Yz.sizesV,W8,M9 r j]
theorem Lf:(us:List SV)→(j:Nat)→getV.getVL us j []=us[j]?
  | [],_=>by simp [getV.getVL]
  | u :: r,0=>by cases u <;> simp [getV.getVL,getV]
  | u :: r,j+1=>by simp only [getV.getVL,Lf r j]; simp
mutual
theorem D9:(u:SV)→(p q:Xh)→(x:SV)→getV u p=some x→getV u (p ++ q)=getV x q∧Td u (p ++ q)=Td u p+Td x q
  | u,[],q,x,hg=>by
    have:u=x:=by cases u <;> simpa [getV] using hg
    subst this
    have:Td u []=0:=by cases u <;> rfl
    exact ⟨rfl,by rw [this,Nat.zero_add]; rfl⟩
  | .agv us,i :: p,q,x,hg=>by
    simp only [getV] at hg
    have:=Fv us i p q x hg
    simpa only [List.cons_append,getV,Td] using this
  | .dat _ _ _,_ :: _,_,_,hg=>by simp [getV] at hg
  | .ptr _ _,_ :: _,_,_,hg=>by simp [getV] at hg
  | .ref _ _,_ :: _,_,_,hg=>by simp [getV] at hg
  | .refv _,_ :: _,_,_,hg=>by simp [getV] at hg
  | .selfc _ _,_ :: _,_,_,hg=>by simp [getV] at hg
  | .glo _,_ :: _,_,_,hg=>by simp [getV] at hg
  | .elp _ _ _,_ :: _,_,_,hg=>by simp [getV] at hg
  | .clo _ _,_ :: _,_,_,hg=>by simp [getV] at hg
  | .tup _,_ :: _,_,_,hg=>by simp [getV] at hg
  | .slv _,_ :: _,_,_,hg=>by simp [getV] at hg
  | .fmap _ _,_ :: _,_,_,hg=>by simp [getV] at hg
  | .nilfn,_ :: _,_,_,hg=>by simp [getV] at hg
  | .und,_ :: _,_,_,hg=>by simp [getV] at hg
  | .junk,_ :: _,_,_,hg=>by simp [getV] at hg
theorem Fv:(us:List SV)→(i:Nat)→(p q:Xh)→(x:SV)→getV.getVL us i p=some x→getV.getVL us i (p ++ q)=getV x q∧Up us i (p ++ q)=Up us i p+Td x q
  | [],_,_,_,_,hg=>by simp [getV.getVL] at hg
  | u :: r,0,p,q,x,hg=>by
    simp only [getV.getVL] at hg
    simpa only [getV.getVL,Up] using D9 u p q x hg
  | u :: r,n+1,p,q,x,hg=>by
    simp only [getV.getVL] at hg
    have:=Fv r n p q x hg
    simp only [getV.getVL,Up]
    exact ⟨this.1,by rw [this.2]; omega⟩
end
theorem H4 {g:Nat} {p:Xh} {v:Value} {sp:Hv} (hv:Zo A ρ w (.ptr g p) v) (hr:ρ g=some sp) (hm:sp.mp=false):sp.ok p∧v=.pointer (some ⟨sp.b,sp.off p,none⟩):=by
  simp only [Zo] at hv
  obtain ⟨s',h1,h2,h3⟩:=hv
  rw [hr] at h1
  cases h1
  rw [hm] at h3
  exact ⟨h2,h3⟩
theorem AHj {g:Nat} {p:Xh} {sp:Hv} (hr:ρ g=some sp) (hm:sp.mp=false) (hk:sp.ok p):Zo A ρ w (.ptr g p) (.pointer (some ⟨sp.b,sp.off p,none⟩)):=by
  simp only [Zo]
  exact ⟨sp,hr,hk,by rw [hm]⟩
theorem Bq {g i:Nat} {p:Xh} {v:Value} {sp:Hv} (hv:Zo A ρ w (.elp g i p) v) (hr:ρ g=some sp):i<sp.len∧sp.ok p∧v=.pointer (some ⟨sp.b,i * sp.es+sp.off p,none⟩):=by
  simp only [Zo] at hv
  obtain ⟨s',h1,_,h2,h3,h4⟩:=hv
  rw [hr] at h1
  cases h1
  exact ⟨h2,h3,h4⟩
variable (st:St B w0 A ρ own w h) (hs:Xp A ρ w s a)
include st hs
theorem AAi {t:FT} {j:Nat} {x:Opd} (hc:Od P o t j x=true) {R:Type} {K:SV→Option R} {r:R} (hg:Yz h t j (evO s x) K=some r) :
    ∃ v,K v=some r∧Z3 P o a w B w0 A ρ v h:=by
  unfold Od at hc
  split at hc
  case h_2=>cases hc
  rename_i T y i ho
  simp only [Bool.and_eq_true] at hc
  obtain ⟨⟨hi,hT⟩,hxy⟩:=hc
  have hi:=Nat.eq_of_beq_eq_true hi
  subst hi
  have k1:=Yl hs hxy
  have fin:∀ (l:Array Field) (f:Field) (n b k:Nat) (v:SV),P.underlying T=some (.struct l)→l[i]?=some f→Vg P f.type n=true→0<n→a.eval y=.pointer (some ⟨b,k,none⟩) →
      Zo A ρ w v (.pointer (some ⟨b,k+f.offset,none⟩))→Z3 P o a w B w0 A ρ v h:=fun l f n b k v h1 h2 h3 h4 h5 h6 =>
    Z3.pure st (by simp only [execOp,ho,h5,Sem.run_bind,AGd h1 h2 h3 h4,Result.andThen_ok,Sem.run_pure]) h6
  unfold Yz at hg
  cases t with
  | d σ =>
    cases σ with
    | st fs =>
      simp only [ARj] at hT
      have hd:=hT
      simp only [X3] at hT
      cases hu:P.underlying T with
      | none=>simp [hu] at hT
      | some dd =>
        cases dd with
        | struct l =>
          simp only [hu] at hT
          simp only [] at hg
          cases hj:Nat.blt i fs.length with
          | false=>rw [hj] at hg; simp at hg
          | true =>
            rw [hj] at hg
            simp only [cond_true] at hg
            obtain ⟨f,t,m1,m2,m3,m4,m5,m6,m7⟩:=O0 fs l.toList 0 i hT (by simpa [Nat.blt_eq] using hj)
            have m1':l[i]?=some f:=by rw [← Array.getElem?_toList]; exact m1
            have hoff:f.offset=J6 (.st fs) [i]:=by rw [m3,Nat.zero_add]; rfl
            have hok:okP (.st fs) [i]:=by simpa only [okP] using m7
            have box:∀ (g:Nat) (p:Xh) (τ:Ty) (z:den τ) (ov:Ov) (M:Hv→List Value→Prop),evO s x=.ptr g p→Ri A ρ w g τ z ov M →
                Yz.fld τ z p (.st fs) (K (.ptr g (p ++ [i])))=some r→∃ v,K v=some r∧Z3 P o a w B w0 A ρ v h:=fun g p τ z ov M hx hb hf=>by
              obtain ⟨sp,cs,n1,n2,n3,n4,_,_⟩:=hb
              rw [hx] at k1
              obtain ⟨q1,q2⟩:=H4 k1 n1 n2
              rw [n4] at q1
              unfold Yz.fld at hf
              split at hf
              · rename_i d hd'
                split at hf
                · rename_i pl _
                  obtain ⟨dτ,dx⟩:=d
                  have hdt:dτ=.st fs:=pl.down
                  subst hdt
                  have:=T6 τ p [i] z ⟨.st fs,dx⟩ q1 hd' hok
                  refine ⟨_,hf,fin l f _ _ _ _ hu m1' m4 m5 q2 ?_⟩
                  have e:sp.off p+f.offset=sp.off (p ++ [i]):=by rw [n3,this.2,hoff]
                  rw [e]
                  exact AHj n1 n2 (by rw [n4]; exact this.1)
                · cases hf
              · cases hf
            have arr:∀ (g k:Nat) (p:Xh) (e:Ty) (z:List (den e)) (M:Hv→List Value→Prop),evO s x=.elp g k p→Kx A ρ w g e z M →
                Yz.fld e (dft e) p (.st fs) (K (.elp g k (p ++ [i])))=some r→∃ v,K v=some r∧Z3 P o a w B w0 A ρ v h:=fun g k p e z M hx hb hf=>by
              obtain ⟨sp,n1,n2,n3,n4,n5,n6,_⟩:=hb
              rw [hx] at k1
              obtain ⟨q0,q1,q2⟩:=Bq k1 n1
              rw [n6] at q1
              unfold Yz.fld at hf
              split at hf
              · rename_i d hd'
                split at hf
                · rename_i pl _
                  obtain ⟨dτ,dx⟩:=d
                  have hdt:dτ=.st fs:=pl.down
                  subst hdt
                  have:=T6 e p [i] (dft e) ⟨.st fs,dx⟩ q1 hd' hok
                  refine ⟨_,hf,fin l f _ _ _ _ hu m1' m4 m5 q2 ?_⟩
                  have e':k * sp.es+sp.off p+f.offset=k * sp.es+sp.off (p ++ [i]):=by rw [n5,this.2,hoff]; exact Nat.add_assoc _ _ _
                  rw [e']
                  simp only [Zo]
                  exact ⟨sp,n1,n2,q0,by rw [n6]; exact this.1,rfl⟩
                · cases hf
              · cases hf
            split at hg
            · rename_i g p hx
              have ob:=st.objs g
              split at hg
              · rename_i τ z ov hh; rw [hh] at ob; exact box g p τ z ov _ hx ob hg
              · rename_i τ z ov hh; rw [hh] at ob; exact box g p τ z ov _ hx ob hg
              · cases hg
            · rename_i g k p hx
              have ob:=st.objs g
              split at hg
              · rename_i e z hh; rw [hh] at ob; exact arr g k p e z _ hx ob hg
              · rename_i e z hh; rw [hh] at ob; exact arr g k p e z _ hx ob hg
              · cases hg
            · rename_i τ z hx
              split at hg
              · rename_i pl d _ hd'
                have hτ:τ=.st fs:=pl.down
                subst hτ
                rw [hx] at k1
                simp only [Zo] at k1
                obtain ⟨b,k,cs,q1,q2,q3,q4⟩:=k1
                have hp:=Zp.getP (.st fs) [i] q4 hok hd'
                refine ⟨_,hg,fin l f _ _ _ _ hu m1' m4 m5 q1 ?_⟩
                simp only [Zo]
                refine ⟨b,k+f.offset,_,rfl,q2,?_,Zp.ov d.τ (fun e => ?_) hp⟩
                · rw [hoff]; exact Hs q3 _ _
                · obtain ⟨q,oo⟩:=e
                  rw [Q5]; simp
              · cases hg
            · cases hg
        | _=>simp [hu] at hT
    | _=>simp [ARj] at hT
  | v sizes =>
    simp only [ARj] at hT
    simp only [] at hg
    cases hu:P.underlying T with
    | none=>simp [hu] at hT
    | some dd =>
      cases dd with
      | struct l =>
        simp only [hu] at hT
        have boxv:∀ (g:Nat) (p:Xh) (u:SV) (M:Hv→List Value→Prop),evO s x=.ptr g p→Wm A ρ w g u M →
            Yz.fldV u p sizes i (K (.ptr g (p ++ [i])))=some r→∃ v,K v=some r∧Z3 P o a w B w0 A ρ v h:=fun g p u M hx hb hf=>by
          obtain ⟨sp,v,n1,n2,n3,n4,_⟩:=hb
          rw [hx] at k1
          obtain ⟨q1,q2⟩:=H4 k1 n1 n2
          unfold Yz.fldV at hf
          split at hf
          · rename_i us hus
            cases hcc:Yz.natsEq (Yz.sizesV us) sizes && Nat.blt i sizes.length with
            | false=>rw [hcc] at hf; simp at hf
            | true =>
              rw [hcc] at hf
              simp only [cond_true] at hf
              simp only [Bool.and_eq_true] at hcc
              have he:=Ev hcc.1
              subst he
              obtain ⟨f,n,m1,m2,m3,m4⟩:=O6 _ l.toList 0 i hT (by simpa [Nat.blt_eq] using hcc.2)
              have m1':l[i]?=some f:=by rw [← Array.getElem?_toList]; exact m1
              have happ:=D9 u p [i] (.agv us) hus
              refine ⟨_,hf,fin l f n _ _ _ hu m1' m3 m4 q2 ?_⟩
              have e':sp.off p+f.offset=sp.off (p ++ [i]):=by
                rw [n3,happ.2,m2,Nat.zero_add]; simp only [Td,M9]
              rw [e']
              refine AHj n1 n2 ?_
              rw [n4]
              unfold okV
              rw [happ.1]
              simp only [getV,Lf]
              have hlt:i<us.length:=by
                have:=hcc.2
                rw [Nat.blt_eq,Pi] at this
                exact this
              exact ⟨us[i],List.getElem?_eq_getElem hlt⟩
          · cases hf
        split at hg
        · rename_i us hx
          split at hg
          · rename_i u hcc hu'
            have he:=Ev hcc
            subst he
            have hlt:i<us.length:=(List.getElem?_eq_some_iff.1 hu').1
            obtain ⟨f,n,m1,m2,m3,m4⟩:=O6 _ l.toList 0 i hT (by rw [Pi]; exact hlt)
            have m1':l[i]?=some f:=by rw [← Array.getElem?_toList]; exact m1
            rw [hx] at k1
            simp only [Zo] at k1
            obtain ⟨b,k,v,q1,q2,q3,vs,rfl,q4,q5⟩:=k1
            obtain ⟨v',w1,w2⟩:=Zw.getV us q4 q5 (i:=i) (p:=[]) (x:=u) (by rw [Lf]; exact hu')
            refine ⟨_,hg,fin l f n _ _ _ hu m1' m3 m4 q1 ?_⟩
            simp only [Zo]
            refine ⟨b,k+f.offset,v',rfl,q2,?_,w1⟩
            rw [w2,m2,Nat.zero_add,← M9]
            exact Hs q3 _ _
          · cases hg
        · rename_i g p hx
          have ob:=st.objs g
          split at hg
          · rename_i u hh; rw [hh] at ob; exact boxv g p u _ hx ob hg
          · rename_i u hh; rw [hh] at ob; exact boxv g p u _ hx ob hg
          · cases hg
        · cases hg
      | _=>simp [hu] at hT
end
end Go.Proofs.YtpemapoblhleoaaGreatDoor.Ghost
namespace Go.Proofs.YtpemapoblhleoaaGreatDoor.Ghost
open Go
section
variable {P:Program} {o:Oper} {a:Act} {w:World} {B:Nat} {w0:Q3} {A:Nat→Prop} {ρ:Xo} {own:Nat→Option Nat} {h:Nat→Obj} {s:Nat→SV}
theorem Eb {R:Type} {n:Int} {m:Nat} {K:Nat→Option R} {r:R} (hg:inB n m K=some r):0≤n∧n<(m:Int)∧K n.toNat=some r:=by
  unfold inB at hg
  split at hg
  · rename_i hn; exact ⟨hn.1,hn.2,hg⟩
  · cases hg
def ASu (P:Program):IT→TypeId→Bool
  | .sl e,t=>X3 P (.sl e) t
  | .arr n e,t=>X3 P (.arr n e) t
  | .slv n,t=>(match P.underlying t with | some (.slice e)=>Vg P e n | _=>false)
def Aj (P:Program) (o:Oper) (t:IT) (x i:Opd):Bool:=match o.op with
  | .indexAddr T y z=>ASu P t T && Xu x y && Xu i z
  | _=>false
theorem Rr {T e:TypeId} {sz b k len cap:Nat} {kd:IntKind} {n:Int} (hu:P.underlying T=some (.slice e)) (hz:Vg P e sz=true) (h0:0≤n) (h1:n<(len:Int)) :
    (Instr.indexAt T (.slice (some ⟨b,k,none⟩) len cap) (.int kd n)).run P w=.ok (.pointer (some ⟨b,k+n.toNat * sz,none⟩)) w:=by
  simp only [Instr.indexAt,asIntOf,Sem.run_bind,Sem.run_pure,Result.andThen_ok,run_underlying hu w,h0,h1,and_self,if_true,Vu hz,Addr.add_mid]
theorem Ni {T e:TypeId} {sz b k len:Nat} {kd:IntKind} {n:Int} (hu:P.underlying T=some (.array len e)) (hz:Vg P e sz=true) (h0:0≤n) (h1:n<(len:Int)) :
    (Instr.indexAt T (.pointer (some ⟨b,k,none⟩)) (.int kd n)).run P w=.ok (.pointer (some ⟨b,k+n.toNat * sz,none⟩)) w:=by
  simp only [Instr.indexAt,asIntOf,Instr.sureAddr,Sem.run_bind,Sem.run_pure,Result.andThen_ok,run_underlying hu w,h0,h1,and_self,if_true,Vu hz,Addr.add_mid]
theorem Ei {e:Ty} {t:TypeId} (hd:X3 P (.sl e) t=true):∃ e',P.underlying t=some (.slice e')∧X3 P e e'=true∧Vg P e' (Zl e)=true∧0<Zl e:=by
  simp only [X3] at hd
  split at hd
  · rename_i e' he
    simp only [Bool.and_eq_true] at hd
    exact ⟨e',he,hd.1.1,hd.1.2,by simpa [Nat.blt_eq] using hd.2⟩
  · cases hd
theorem T9 {n:Nat} {e:Ty} {t:TypeId} (hd:X3 P (.arr n e) t=true):∃ e',P.underlying t=some (.array n e')∧X3 P e e'=true∧Vg P e' (Zl e)=true∧0<Zl e:=by
  simp only [X3] at hd
  split at hd
  · rename_i n' e' he
    simp only [Bool.and_eq_true] at hd
    have:=Nat.eq_of_beq_eq_true hd.1.1.1
    subst this
    exact ⟨e',he,hd.1.1.2,hd.1.2,by simpa [Nat.blt_eq] using hd.2⟩
  · cases hd
theorem Bn {z:Nat}:(us:List SV)→(j:Nat)→(∀ u,u∈us→J4 u=z)→j≤us.length→W8 (Yz.sizesV us) j=j * z
  | [],j,_,hj=>by simp at hj; subst hj; simp [Yz.sizesV,W8]
  | u :: r,0,_,_=>by simp [Yz.sizesV,W8]
  | u :: r,j+1,h,hj=>by
    simp only [Yz.sizesV,W8,Bn r j (fun u hu=>h u (by simp [hu])) (by simpa using hj),h u (by simp),Nat.add_mul,Nat.one_mul]
    omega
variable (st:St B w0 A ρ own w h) (hs:Xp A ρ w s a)
include st hs
theorem AH3 {t:IT} {x i:Opd} (hc:Aj P o t x i=true) {R:Type} {K:SV→Option R} {r:R} (hg:U5 t h (evO s x) (evO s i) K=some r) :
    ∃ v,K v=some r∧Z3 P o a w B w0 A ρ v h:=by
  unfold Aj at hc
  split at hc
  case h_2=>cases hc
  rename_i T y z ho
  simp only [Bool.and_eq_true] at hc
  obtain ⟨⟨hT,hx⟩,hi⟩:=hc
  have k1:=Yl hs hx
  have k2:=Yl hs hi
  have fin:∀ (v':Value) (v:SV),(Instr.indexAt T (a.eval y) (a.eval z)).run P w=.ok v' w→Zo A ρ w v v'→Z3 P o a w B w0 A ρ v h:=fun v' v h1 h2 =>
    Z3.pure st (by simp only [execOp,ho,Sem.run_bind,h1,Result.andThen_ok,Sem.run_pure]) h2
  unfold U5 at hg
  split at hg
  case h_2=>cases hg
  rename_i kd n ovi hin
  rw [hin] at k2
  have k2:=Gj k2
  rw [k2] at fin
  cases t with
  | sl σ =>
    simp only [ASu] at hT
    obtain ⟨e',u1,u2,u3,u4⟩:=Ei hT
    simp only [] at hg
    have own:∀ (e:Ty) (l0:List (den e)) (g:Nat) (e1:Ty) (l:List (den e1)) (M:Hv→List Value→Prop),evO s x=.dat (.sl e) l0 [([],some g)]→Kx A ρ w g e1 l M →
        (match Hi e1 σ with | some _=>inB n l.length fun j=>K (.elp g j []) | none=>none)=some r→∃ v,K v=some r∧Z3 P o a w B w0 A ρ v h:=fun e l0 g e1 l M hx' hb hf=>by
      obtain ⟨sp,n1,n2,n3,n4,n5,n6,n7,n8,n9⟩:=hb
      rw [hx'] at k1
      simp only [Zo,Zp] at k1
      obtain ⟨cs,⟨ad,len,cap,rfl,q2,_⟩,hv⟩:=k1
      obtain ⟨sp',ad',w1,_,w2,w3⟩:=q2 g (by simp)
      rw [n1] at w1
      cases w1
      cases w2
      split at hf
      · rename_i pl _
        have:=pl.down
        subst this
        obtain ⟨i0,i1,i2⟩:=Eb hf
        rw [n7] at i1
        have hcap:0<sp.cap:=by omega
        have:=w3 hcap
        subst this
        refine ⟨_,i2,fin _ _ (by rw [hv]; exact Rr u1 u3 i0 i1) ?_⟩
        simp only [Zo]
        refine ⟨sp,n1,n2,by omega,by rw [n6]; cases e1 <;> trivial,?_⟩
        have h0:J6 e1 []=0:=by cases e1 <;> rfl
        rw [n5,h0,n3,Nat.zero_add,Nat.add_zero]
      · cases hf
    split at hg
    · rename_i e l hx'
      rw [hx'] at k1
      simp only [Zo,Zp] at k1
      obtain ⟨cs,⟨ad,len,cap,rfl,_,q3⟩,hv⟩:=k1
      split at hg
      · rename_i pl _
        have:=pl.down
        subst this
        obtain ⟨i0,i1,i2⟩:=Eb hg
        obtain ⟨q4,q5⟩:=q3 (by simp)
        subst q4
        obtain ⟨b,k,ds,rfl,w1,w2,w3,w4⟩:=q5 (by omega)
        refine ⟨_,i2,fin _ _ (by rw [hv]; exact Rr u1 u3 i0 i1) ?_⟩
        simp only [Zo]
        exact ⟨b,_,_,rfl,w1,Hs w2 _ _,w4 n.toNat (by omega)⟩
      · cases hg
    · rename_i e l0 g hx'
      have ob:=st.objs g
      split at hg
      · rename_i e1 l hh; rw [hh] at ob; exact own e l0 g e1 l _ hx' ob hg
      · rename_i e1 l hh; rw [hh] at ob; exact own e l0 g e1 l _ hx' ob hg
      · cases hg
    · cases hg
  | arr M σ =>
    simp only [ASu] at hT
    obtain ⟨e',u1,u2,u3,u4⟩:=T9 hT
    simp only [] at hg
    have box:∀ (g:Nat) (p:Xh) (τ:Ty) (q:den τ) (ov:Ov) (M':Hv→List Value→Prop),evO s x=.ptr g p→Ri A ρ w g τ q ov M' →
        U5.arrAt τ q p M σ n (fun j=>K (.ptr g (p ++ [j])))=some r→∃ v,K v=some r∧Z3 P o a w B w0 A ρ v h:=fun g p τ q ov M' hx' hb hf=>by
      obtain ⟨sp,cs,n1,n2,n3,n4,_,_⟩:=hb
      rw [hx'] at k1
      obtain ⟨q1,q2⟩:=H4 k1 n1 n2
      rw [n4] at q1
      unfold U5.arrAt at hf
      split at hf
      · rename_i N e dx hd'
        split at hf
        · rename_i pl _ hN
          have:=pl.down
          subst this
          have hN:=Nat.eq_of_beq_eq_true hN
          subst hN
          obtain ⟨i0,i1,i2⟩:=Eb hf
          have hlt:n.toNat<N:=by omega
          have h0:J6 e []=0:=by cases e <;> rfl
          have:=T6 τ p [n.toNat] q ⟨.arr N e,dx⟩ q1 hd' ⟨hlt,by cases e <;> trivial⟩
          refine ⟨_,i2,fin _ _ (by rw [q2]; exact Ni u1 u3 i0 i1) ?_⟩
          have e':sp.off p+n.toNat * Zl e=sp.off (p ++ [n.toNat]):=by
            rw [n3,this.2]; simp only [J6,h0,Nat.add_zero]
          rw [e']
          exact AHj n1 n2 (by rw [n4]; exact this.1)
        · cases hf
      · cases hf
    split at hg
    · rename_i N e l hx'
      split at hg
      · rename_i pl _ hN
        have:=pl.down
        subst this
        have hN:=Nat.eq_of_beq_eq_true hN
        subst hN
        obtain ⟨i0,i1,i2⟩:=Eb hg
        rw [hx'] at k1
        simp only [Zo,Zp] at k1
        obtain ⟨b,k,cs,q1,q2,q3,q4,q5,q6⟩:=k1
        have hlt:n.toNat<N:=by omega
        refine ⟨_,i2,fin _ _ (by rw [q1]; exact Ni u1 u3 i0 i1) ?_⟩
        simp only [Zo]
        exact ⟨b,_,_,rfl,q2,Hs q3 _ _,q6 n.toNat hlt⟩
      · cases hg
    · rename_i g p hx'
      have ob:=st.objs g
      split at hg
      · rename_i τ q ov hh; rw [hh] at ob; exact box g p τ q ov _ hx' ob hg
      · rename_i τ q ov hh; rw [hh] at ob; exact box g p τ q ov _ hx' ob hg
      · cases hg
    · cases hg
  | slv sz =>
    simp only [ASu] at hT
    simp only [] at hg
    cases hu:P.underlying T with
    | none=>simp [hu] at hT
    | some dd =>
      cases dd with
      | slice e' =>
        simp only [hu] at hT
        split at hg
        · rename_i us hx'
          split at hg
          · rename_i j _
            split at hg
            · rename_i u hu'
              split at hg
              · rename_i hsz
                have hsz:=Nat.eq_of_beq_eq_true hsz
                rw [hx'] at k1
                simp only [Zo] at k1
                obtain ⟨ad,len,cap,q1,q2,vs,q3,q4,⟨zz,q5⟩,q6⟩:=k1
                have hlt:j<us.length:=(List.getElem?_eq_some_iff.1 hu').1
                obtain ⟨b,k,rfl,w1,w2⟩:=q6 (by omega)
                have hzz:zz=sz:=by rw [← q5 u (List.mem_of_getElem? hu')]; exact hsz
                subst hzz
                obtain ⟨v',v1,v2⟩:=Zw.getV us q3 q4 (i:=j) (p:=[]) (x:=u) (by rw [Lf]; exact hu')
                refine ⟨_,hg,fin _ _ (by rw [q1]; exact Rr (n:=(j:Int)) hu hT (by omega) (by omega)) ?_⟩
                simp only [Zo]
                refine ⟨b,_,v',rfl,w1,?_,v1⟩
                rw [v2,M9,Bn us j q5 (by omega)]
                exact Hs w2 _ _
              · cases hg
            · cases hg
          · cases hg
        · cases hg
      | _=>simp [hu] at hT
end
end Go.Proofs.YtpemapoblhleoaaGreatDoor.Ghost
