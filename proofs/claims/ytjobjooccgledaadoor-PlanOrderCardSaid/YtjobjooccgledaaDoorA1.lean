/- The ghost semantics, and memory as it has it. Conditions: none. -/
import GoSem.Dispatch
import Derived.Deep.MidRow
import Derived.Below
import Derived.Orders
set_option linter.unusedVariables false
set_option linter.unusedSimpArgs false
set_option linter.unusedSectionVars false
set_option linter.unnecessarySimpa false
namespace Go.Proofs.YtjobjooccgledaaDoor.Ghost
open Go
inductive Ty where
  | bool | int (k:IntKind) | str
  | sl (e:Ty) | arr (n:Nat) (e:Ty) | st (fs:List Ty)
mutual
@[reducible] def den:Ty→Type
  | .bool=>Bool
  | .int _=>Int
  | .str=>ByteArray
  | .sl e=>List (den e)
  | .arr _ e=>List (den e)
  | .st fs=>denL fs
@[reducible] def denL:List Ty→Type
  | []=>Unit
  | t :: r=>den t×denL r
end
mutual
def dft:(t:Ty)→den t
  | .bool=>false
  | .int _=>(0:Int)
  | .str=>(⟨#[]⟩:ByteArray)
  | .sl _=>[]
  | .arr n e=>List.replicate n (dft e)
  | .st fs=>dftL fs
def dftL:(l:List Ty)→denL l
  | []=>()
  | t :: r=>(dft t,dftL r)
end
mutual
def tsize:Ty→Nat
  | .st fs=>tsizeL fs
  | .arr n e=>n * tsize e
  | _=>1
def tsizeL:List Ty→Nat
  | []=>0
  | t :: r=>tsize t+tsizeL r
end
structure Dyn where
  τ:Ty
  x:den τ
abbrev Path:=List Nat
def getF:(l:List Ty)→Nat→denL l→Option Dyn
  | [],_,_=>none
  | t :: _,0,x=>some ⟨t,x.1⟩
  | _ :: r,n+1,x=>getF r n x.2
def getP:Path→(τ:Ty)→den τ→Option Dyn
  | [],τ,x=>some ⟨τ,x⟩
  | i :: p,.st fs,x=>match getF fs i x with
    | some d=>getP p d.τ d.x
    | none=>none
  | i :: p,.arr _ e,x=>getP p e (List.getD x i (dft e))
  | _ :: _,_,_=>none
mutual
def tyEq:(a b:Ty)→Option (PLift (a=b))
  | .bool,.bool=>some ⟨rfl⟩
  | .int k,.int k'=>if h:k=k' then some ⟨by rw [h]⟩ else none
  | .str,.str=>some ⟨rfl⟩
  | .sl a,.sl b=>match tyEq a b with | some ⟨h⟩=>some ⟨by rw [h]⟩ | none=>none
  | .arr n a,.arr m b=>if hn:n=m then match tyEq a b with | some ⟨h⟩=>some ⟨by rw [h,hn]⟩ | none=>none else none
  | .st a,.st b=>match tyEqL a b with | some ⟨h⟩=>some ⟨by rw [h]⟩ | none=>none
  | _,_=>none
def tyEqL:(a b:List Ty)→Option (PLift (a=b))
  | [],[]=>some ⟨rfl⟩
  | a :: r,b :: s=>match tyEq a b with
    | some ⟨h⟩=>match tyEqL r s with
      | some ⟨h'⟩=>some ⟨by rw [h,h']⟩
      | none=>none
    | none=>none
  | _,_=>none
end
def castT (a b:Ty) (x:den a):Option (den b):=match tyEq a b with
  | some ⟨h⟩=>some (h ▸ x)
  | none=>none
mutual
def setF:(l:List Ty)→Nat→Path→denL l→Dyn→Option (denL l)
  | [],_,_,_,_=>none
  | t :: _,0,p,x,d=>match setP t p x.1 d with
    | some y=>some (y,x.2)
    | none=>none
  | _ :: r,n+1,p,x,d=>match setF r n p x.2 d with
    | some y=>some (x.1,y)
    | none=>none
def setP:(t:Ty)→Path→den t→Dyn→Option (den t)
  | t,[],_,d=>castT d.τ t d.x
  | .st fs,i :: p,x,d=>setF fs i p x d
  | .arr _ e,i :: p,x,d=>match setP e p (List.getD x i (dft e)) d with
    | some y=>some (List.set x i y)
    | none=>none
  | _,_ :: _,_,_=>none
end
def pathEq:Path→Path→Bool
  | [],[]=>true
  | i :: p,j :: q=>Nat.beq i j && pathEq p q
  | _,_=>false
inductive SV where
  | dat (τ:Ty) (x:den τ) (ov:List (Path×Option Nat))
  | ptr (g:Nat) (p:Path)
  | ref (τ:Ty) (x:den τ)
  | refv (v:SV)
  | selfc (f:FuncId) (caps:List SV)
  | glo (k:Nat)
  | elp (g i:Nat) (p:Path)
  | clo (f:FuncId) (caps:List SV)
  | tup (vs:List SV)
  | slv (vs:List SV)
  | fmap (ks:List Int) (vs:List SV)
  | agv (vs:List SV)
  | nilfn
  | und
  | junk
inductive Obj where
  | box (τ:Ty) (x:den τ) (ov:List (Path×Option Nat))
  | boxv (v:SV)
  | fbox (τ:Ty) (x:den τ) (ov:List (Path×Option Nat))
  | fboxv (v:SV)
  | arr (e:Ty) (l:List (den e))
  | frz (e:Ty) (l:List (den e))
  | map (k v:Ty) (l:List (den k×den v))
  | hid
  | dead
  | none
abbrev Heap:=List Obj
abbrev Slots:=List (Nat×SV)
def getO:Heap→Nat→Obj
  | [],_=>.none
  | o :: _,0=>o
  | _ :: r,n+1=>getO r n
def setO:Heap→Nat→Obj→Heap
  | [],0,o=>[o]
  | [],n+1,o=>.none :: setO [] n o
  | _ :: r,0,o=>o :: r
  | x :: r,n+1,o=>x :: setO r n o
def getS:Slots→Nat→SV
  | [],_=>.junk
  | (i,v) :: r,j=>match Nat.beq i j with | true=>v | false=>getS r j
def putS:Slots→Nat→SV→Slots
  | [],j,x=>[(j,x)]
  | (i,v) :: r,j,x=>match Nat.beq i j with | true=>(i,x) :: r | false=>(i,v) :: putS r j x
def putO (s:Slots):Option Nat→SV→Slots
  | none,_=>s
  | some d,v=>putS s d v
def killS (k:List Nat):Slots→Slots
  | []=>[]
  | (i,v) :: r=>match k.any (Nat.beq i) with | true=>killS k r | false=>(i,v) :: killS k r
def strip:Path→Path→Option Path
  | [],q=>some q
  | i :: p,j :: q=>match Nat.beq i j with | true=>strip p q | false=>none
  | _ :: _,[]=>none
def ovSub (p:Path):List (Path×Option Nat)→List (Path×Option Nat)
  | []=>[]
  | (q,g) :: r=>match strip p q with | some q'=>(q',g) :: ovSub p r | none=>ovSub p r
def ovDrop (p:Path):List (Path×Option Nat)→List (Path×Option Nat)
  | []=>[]
  | (q,g) :: r=>match strip p q with | some _=>ovDrop p r | none=>(q,g) :: ovDrop p r
def ovPre (p:Path):List (Path×Option Nat)→List (Path×Option Nat)
  | []=>[]
  | (q,g) :: r=>(p ++ q,g) :: ovPre p r
def pathLt:Path→Path→Bool
  | [],[]=>false
  | [],_ :: _=>true
  | _ :: _,[]=>false
  | i :: p,j :: q=>Nat.blt i j || Nat.beq i j && pathLt p q
def ovIns (e:Path×Option Nat):List (Path×Option Nat)→List (Path×Option Nat)
  | []=>[e]
  | x :: r=>match pathLt e.1 x.1 with | true=>e :: x :: r | false=>x :: ovIns e r
def ovMerge:List (Path×Option Nat)→List (Path×Option Nat)→List (Path×Option Nat)
  | [],ov=>ov
  | e :: r,ov=>ovMerge r (ovIns e ov)
def getV:SV→Path→Option SV
  | v,[]=>some v
  | .agv vs,i :: p=>getVL vs i p
  | _,_ :: _=>none
where getVL:List SV→Nat→Path→Option SV
  | [],_,_=>none
  | v :: _,0,p=>getV v p
  | _ :: r,n+1,p=>getVL r n p
def resolve (h:Nat→Obj) (τ:Ty) (x:den τ):List (Path×Option Nat)→Option (den τ)
  | []=>some x
  | (q,some g) :: r=>match h g with
    | .arr e l=>match setP τ q x ⟨.sl e,l⟩ with
      | some y=>resolve h τ y r
      | none=>none
    | .frz e l=>match setP τ q x ⟨.sl e,l⟩ with
      | some y=>resolve h τ y r
      | none=>none
    | _=>none
  | (_,none) :: _=>none
def globs:Nat→Option Dyn:=fun _=>none
def fglobs:Nat→Option (List Int×List FuncId):=fun k=>match k with
  | 0=>some ([0,1,2],[45,43,46])
  | _=>none
def globSl {R:Type} (o:Option Dyn) (M:Nat) (σ:Ty) (K:(l:List (den σ))→Option R):Option R:=match o with
  | some ⟨.arr N e,l⟩=>(match tyEq e σ,Nat.beq N M with | some ⟨h⟩,true=>K (h ▸ l) | _,_=>none)
  | _=>none
inductive Opd where
  | t (i:Nat)
  | g (k:Nat)
  | c (τ:Ty) (x:den τ)
  | f (f:FuncId)
  | nf
def evO (s:Nat→SV):Opd→SV
  | .t i=>s i
  | .g k=>.glo k
  | .c τ x=>.dat τ x []
  | .f f=>.clo f []
  | .nf=>.nilfn
inductive Sh where
  | d (τ:Ty)
  | ref (τ:Ty)
  | refv (s:Sh)
  | selfc (f:FuncId) (l:List Sh)
  | clo (f:FuncId) (l:List Sh)
  | nilfn
  | agv (l:List Sh)
  | slv (l:List Sh)
  | fmap (ks:List Int) (l:List Sh)
mutual
@[reducible] def dSh:Sh→Type
  | .d τ=>den τ
  | .ref τ=>den τ
  | .refv s=>dSh s
  | .selfc _ l=>dShL l
  | .clo _ l=>dShL l
  | .nilfn=>Unit
  | .agv l=>dShL l
  | .slv l=>dShL l
  | .fmap _ l=>dShL l
@[reducible] def dShL:List Sh→Type
  | []=>Unit
  | s :: r=>dSh s×dShL r
end
mutual
def inj:(s:Sh)→dSh s→SV
  | .d τ,x=>.dat τ x []
  | .ref τ,x=>.ref τ x
  | .refv s,x=>.refv (inj s x)
  | .selfc f l,x=>.selfc f (injL l x)
  | .clo f l,x=>.clo f (injL l x)
  | .nilfn,_=>.nilfn
  | .agv l,x=>.agv (injL l x)
  | .slv l,x=>.slv (injL l x)
  | .fmap ks l,x=>.fmap ks (injL l x)
def injL:(l:List Sh)→dShL l→List SV
  | [],_=>[]
  | s :: r,x=>inj s x.1 :: injL r x.2
end
def intsB:List Int→List Int→Bool
  | [],[]=>true
  | a :: r,b :: s=>(a == b) && intsB r s
  | _,_=>false
mutual
def prj:(s:Sh)→SV→Option (dSh s)
  | .d τ,.dat σ x []=>castT σ τ x
  | .ref τ,.ref σ x=>castT σ τ x
  | .refv s,.refv v=>prj s v
  | .selfc f l,.selfc g vs=>match Nat.beq f g with | true=>prjL l vs | false=>none
  | .clo f l,.clo g vs=>match Nat.beq f g with | true=>prjL l vs | false=>none
  | .nilfn,.nilfn=>some ()
  | .agv l,.agv vs=>prjL l vs
  | .slv l,.slv vs=>prjL l vs
  | .fmap ks l,.fmap ks' vs=>match intsB ks ks' with | true=>prjL l vs | false=>none
  | _,_=>none
def prjL:(l:List Sh)→List SV→Option (dShL l)
  | [],[]=>some ()
  | s :: r,v :: vs=>match prj s v with
    | some x=>match prjL r vs with
      | some y=>some (x,y)
      | none=>none
    | none=>none
  | _,_=>none
end
inductive LT where
  | d (τ:Ty)
  | v (agg:Bool) (n:Nat)
inductive FT where
  | d (τ:Ty)
  | v (sizes:List Nat)
inductive IT where
  | sl (e:Ty)
  | arr (n:Nat) (e:Ty)
  | slv (n:Nat)
inductive GOp where
  | move (x:Opd)
  | mknil (k:Nat) (e:Ty)
  | pick (c a b:Opd)
  | newbox (k:Nat) (τ:Ty) (nils:List (Path×Nat))
  | newboxv (k:Nat) (z:SV)
  | box (k:Nat) (x:Opd)
  | load (t:LT) (a:Opd)
  | store (t:LT) (a v:Opd)
  | bin (op:BinOp) (x y:Opd)
  | eqs (τ:Ty) (neg:Bool) (x y:Opd)
  | not (x:Opd)
  | neg (x:Opd)
  | conv (k:IntKind) (x:Opd)
  | fieldAddr (t:FT) (j:Nat) (a:Opd)
  | field (τ:Ty) (j:Nat) (a:Opd)
  | index (t:IT) (x i:Opd)
  | len (x:Opd)
  | lens (x:Opd)
  | slicearr (n:Nat) (e:Ty) (x:Opd)
  | max (xs:List Opd)
  | min (xs:List Opd)
  | build (τ:Ty) (parts:List (Nat×Opd)) (nils:List (Path×Nat))
  | buildv (sizes:List Nat) (parts:List Opd)
  | slice (k:Nat) (e:Ty) (parts:List Opd)
  | slicev (size:Nat) (parts:List Opd)
  | make (k:Nat) (e:Ty) (n:Opd)
  | append (k:Nat) (e:Ty) (x y:Opd)
  | extract (x:Opd) (i:Nat)
  | func (f:FuncId) (caps:List Opd)
  | mkmap (k:Nat) (κ ν:Ty)
  | lookup (κ ν:Ty) (m i:Opd)
  | lookv (m i:Opd) (ok:Bool)
  | slx (e:Ty) (x:Opd) (lo hi:Option Opd)
  | mapset (κ ν:Ty) (m i v:Opd)
  | mapent (κ ν:Ty) (m i:Opd)
  | mapst (κ ν:Ty) (m e v:Opd)
  | call (f:Opd) (args:List Opd) (res:List Sh) (keep:List ((Nat×Path)×Nat)) (opt:Bool)
  | fail
abbrev Eff:=List (Nat×Obj)
def applyE (h:Heap):Eff→Heap
  | []=>h
  | (g,o) :: r=>applyE (setO h g o) r
def allEq {α:Type} (f:α→α→Bool):List α→List α→Bool
  | x :: r,y :: r'=>f x y && allEq f r r'
  | _,_=>true
mutual
def eqT:(t:Ty)→den t→den t→Bool
  | .bool,x,y=>x == y
  | .int _,x,y=>x == y
  | .str,x,y=>x == y
  | .sl _,_,_=>false
  | .arr _ e,x,y=>allEq (eqT e) x y
  | .st fs,x,y=>eqTL fs x y
def eqTL:(l:List Ty)→denL l→denL l→Bool
  | [],_,_=>true
  | t :: r,x,y=>eqT t x.1 y.1 && eqTL r x.2 y.2
end
mutual
def cmpT:Ty→Bool
  | .sl _=>false
  | .arr _ e=>cmpT e
  | .st fs=>cmpTL fs
  | _=>true
def cmpTL:List Ty→Bool
  | []=>true
  | t :: r=>cmpT t && cmpTL r
end
section
variable {R:Type}
def binInt (op:BinOp) (k:IntKind) (x y:Int) (K:SV→Option R):Option R :=
  match op with
  | .add=>K (.dat (.int k) (k.wrap (x+y)) [])
  | .sub=>K (.dat (.int k) (k.wrap (x - y)) [])
  | .mul=>K (.dat (.int k) (k.wrap (x * y)) [])
  | .rem=>if y=0 then none else K (.dat (.int k) (Int.tmod x y) [])
  | .quo=>if y=0 then none else K (.dat (.int k) (k.wrap (Int.tdiv x y)) [])
  | .eql=>K (.dat .bool (decide (x=y)) [])
  | .neq=>K (.dat .bool (!decide (x=y)) [])
  | .lss=>K (.dat .bool (decide (x<y)) [])
  | .leq=>K (.dat .bool (decide (x≤y)) [])
  | .gtr=>K (.dat .bool (decide (y<x)) [])
  | .geq=>K (.dat .bool (decide (y≤x)) [])
  | _=>none
def binG (op:BinOp) (a b:SV) (K:SV→Option R):Option R :=
  match a,b with
  | .dat (.int k) x _,.dat (.int k') y _=>if k=k' then binInt op k x y K else none
  | _,_=>none
def eqsG (τ:Ty) (neg:Bool) (a b:SV) (K:SV→Option R):Option R :=
  match a,b with
  | .dat σ x [],.dat ρ y []=>match castT σ τ x,castT ρ τ y,cmpT τ with
    | some x,some y,true=>K (.dat .bool (match neg with | true => !(eqT τ x y) | false=>eqT τ x y) [])
    | _,_,_=>none
  | _,_=>none
def subD (τ:Ty) (x:den τ) (ov:List (Path×Option Nat)) (p:Path) (K:SV→Option R):Option R :=
  match getP p τ x with
  | some d=>K (.dat d.τ d.x (ovSub p ov))
  | none=>none
mutual
def svSize:SV→Nat
  | .dat τ _ _=>tsize τ
  | .agv vs=>svSizeL vs
  | _=>1
def svSizeL:List SV→Nat
  | []=>0
  | v :: r=>svSize v+svSizeL r
end
def sized (n:Nat):SV→Bool
  | .junk=>false
  | .und=>false
  | .tup _=>false
  | v=>Nat.beq (svSize v) n
def sizedL:List Nat→List SV→Bool
  | [],[]=>true
  | n :: r,v :: s=>sized n v && sizedL r s
  | _,_=>false
def sizedA (n:Nat):List SV→Bool
  | []=>true
  | v :: s=>sized n v && sizedA n s
def okL:LT→SV→Bool
  | .d τ,.dat σ _ _=>(match tyEq σ τ with | some _=>true | none=>false)
  | .v true n,.agv vs=>Nat.beq (svSizeL vs) n
  | .v false n,.clo _ _=>Nat.beq n 1
  | .v false n,.nilfn=>Nat.beq n 1
  | .v false n,.fmap _ _=>Nat.beq n 1
  | _,_=>false
def lkRes (ok:Bool) (v:SV) (b:Bool):SV:=match ok with | true=>.tup [v,.dat .bool b []] | false=>v
def lookV (n:Int):List Int→List SV→(SV→Bool→Option R)→Option R
  | k :: ks,v :: vs,K=>bif decide (n=k) then K v true else lookV n ks vs K
  | _,_,K=>K .nilfn false
def bndG (s:Nat→SV):Option Opd→Int→Option Int
  | none,d=>some d
  | some x,_=>match evO s x with | .dat (.int .i64) n _=>some n | _=>none
def loadG (h:Nat→Obj) (a:SV) (K:SV→Option R):Option R :=
  match a with
  | .ref τ x=>K (.dat τ x [])
  | .refv v=>K v
  | .selfc f vs=>K (.clo f (.selfc f vs :: vs))
  | .glo k=>match globs k with | some d=>K (.dat d.τ d.x []) | none=>(match fglobs k with | some p=>K (.fmap p.1 (p.2.map fun f=>.clo f [])) | none=>none)
  | .ptr g p=>match h g with
    | .box τ x ov=>subD τ x ov p K
    | .fbox τ x ov=>subD τ x ov p K
    | .boxv v=>(match getV v p with | some u=>K u | none=>none)
    | .fboxv v=>(match getV v p with | some u=>K u | none=>none)
    | _=>none
  | .elp g i p=>match h g with
    | .arr e l=>subD e (List.getD l i (dft e)) [] p K
    | .frz e l=>subD e (List.getD l i (dft e)) [] p K
    | _=>none
  | _=>none
def loadT (t:LT) (h:Nat→Obj) (a:SV) (K:SV→Option R):Option R :=
  loadG h a fun v=>match okL t v with | true=>K v | false=>none
mutual
def sameLay:SV→SV→Bool
  | .agv vs,.agv us=>sameLayL vs us
  | .dat τ _ [],.dat σ _ []=>(match tyEq τ σ with | some _=>true | none=>false)
  | .nilfn,.nilfn=>true
  | .nilfn,.clo _ _=>true
  | .clo _ _,.nilfn=>true
  | .clo _ _,.clo _ _=>true
  | _,_=>false
def sameLayL:List SV→List SV→Bool
  | [],[]=>true
  | v :: r,u :: s=>sameLay v u && sameLayL r s
  | _,_=>false
end
mutual
def zeroV:SV→Bool
  | .nilfn=>true
  | .agv vs=>zeroVL vs
  | .dat (.int _) x []=>decide (x=(0:Int))
  | .dat .bool x [] => !x
  | _=>false
def zeroVL:List SV→Bool
  | []=>true
  | v :: r=>zeroV v && zeroVL r
end
def storeG (h:Nat→Obj) (a v:SV) (K:Eff→Option R):Option R :=
  match a with
  | .ptr g p=>match h g with
    | .box τ x ov=>(match v with
      | .dat σ y ov'=>match setP τ p x ⟨σ,y⟩ with
        | some x'=>K [(g,.box τ x' (ovMerge (ovPre p ov') (ovDrop p ov)))]
        | none=>none
      | _=>none)
    | .boxv u=>(match p,sameLay u v with | [],true=>K [(g,.boxv v)] | _,_=>none)
    | _=>none
  | .elp g i p=>match h g with
    | .arr e l=>(match v with
      | .dat σ y []=>match setP e p (List.getD l i (dft e)) ⟨σ,y⟩ with
        | some y'=>K [(g,.arr e (List.set l i y'))]
        | none=>none
      | _=>none)
    | _=>none
  | _=>none
def inB (n:Int) (m:Nat) (K:Nat→Option R):Option R:=if 0≤n∧n<(m:Int) then K n.toNat else none
def fieldAG (h:Nat→Obj) (t:FT) (j:Nat) (a:SV) (K:SV→Option R):Option R :=
  match t with
  | .d σ=>(match σ with
    | .st fs=>bif Nat.blt j fs.length then (match a with
      | .ptr g p=>(match h g with
        | .box τ x _=>fld τ x p σ (K (.ptr g (p ++ [j])))
        | .fbox τ x _=>fld τ x p σ (K (.ptr g (p ++ [j])))
        | _=>none)
      | .elp g i p=>(match h g with
        | .arr e _=>fld e (dft e) p σ (K (.elp g i (p ++ [j])))
        | .frz e _=>fld e (dft e) p σ (K (.elp g i (p ++ [j])))
        | _=>none)
      | .ref τ x=>(match tyEq τ σ,getP [j] τ x with | some _,some d=>K (.ref d.τ d.x) | _,_=>none)
      | _=>none) else none
    | _=>none)
  | .v sizes=>(match a with
    | .refv (.agv vs)=>(match natsEq (sizesV vs) sizes,vs[j]? with | true,some v=>K (.refv v) | _,_=>none)
    | .ptr g p=>(match h g with
      | .boxv u=>fldV u p sizes j (K (.ptr g (p ++ [j])))
      | .fboxv u=>fldV u p sizes j (K (.ptr g (p ++ [j])))
      | _=>none)
    | _=>none)
where
  fld (τ:Ty) (x:den τ) (p:Path) (σ:Ty) (r:Option R):Option R:=match getP p τ x with
    | some d=>(match tyEq d.τ σ with | some _=>r | none=>none)
    | none=>none
  sizesV:List SV→List Nat
    | []=>[]
    | v :: r=>svSize v :: sizesV r
  natsEq:List Nat→List Nat→Bool
    | [],[]=>true
    | a :: r,b :: s=>Nat.beq a b && natsEq r s
    | _,_=>false
  fldV (u:SV) (p:Path) (sizes:List Nat) (j:Nat) (r:Option R):Option R:=match getV u p with
    | some (.agv vs)=>bif natsEq (sizesV vs) sizes && Nat.blt j sizes.length then r else none
    | _=>none
def indexG (t:IT) (h:Nat→Obj) (x i:SV) (K:SV→Option R):Option R :=
  match i with
  | .dat (.int _) n _=>(match t with
    | .sl σ=>(match x with
      | .dat (.sl e) l []=>(match tyEq e σ with | some _=>inB n (List.length l) fun j=>K (.ref e (List.getD l j (dft e))) | none=>none)
      | .dat (.sl _) _ [([],some g)]=>(match h g with
        | .arr e l=>(match tyEq e σ with | some _=>inB n l.length fun j=>K (.elp g j []) | none=>none)
        | .frz e l=>(match tyEq e σ with | some _=>inB n l.length fun j=>K (.elp g j []) | none=>none)
        | _=>none)
      | _=>none)
    | .arr M σ=>(match x with
      | .ref (.arr N e) l=>(match tyEq e σ,Nat.beq N M with | some _,true=>inB n N fun j=>K (.ref e (List.getD l j (dft e))) | _,_=>none)
      | .ptr g p=>(match h g with
        | .box τ x _=>arrAt τ x p M σ n fun j=>K (.ptr g (p ++ [j]))
        | .fbox τ x _=>arrAt τ x p M σ n fun j=>K (.ptr g (p ++ [j]))
        | _=>none)
      | _=>none)
    | .slv sz=>(match x with
      | .slv vs=>(match n with
        | .ofNat j=>(match vs[j]? with | some v=>(match Nat.beq (svSize v) sz with | true=>K (.refv v) | false=>none) | none=>none)
        | _=>none)
      | _=>none))
  | _=>none
where
  arrAt (τ:Ty) (x:den τ) (p:Path) (M:Nat) (σ:Ty) (n:Int) (K:Nat→Option R):Option R:=match getP p τ x with
    | some ⟨.arr N e,_⟩=>(match tyEq e σ,Nat.beq N M with | some _,true=>inB n N K | _,_=>none)
    | _=>none
def lenG (h:Nat→Obj) (x:SV) (K:SV→Option R):Option R :=
  match x with
  | .dat (.sl _) l []=>K (.dat (.int .i64) ((List.length l:Nat):Int) [])
  | .dat (.sl _) _ [([],some g)]=>(match h g with
    | .arr _ l=>K (.dat (.int .i64) ((List.length l:Nat):Int) [])
    | .frz _ l=>K (.dat (.int .i64) ((List.length l:Nat):Int) [])
    | _=>none)
  | .slv vs=>K (.dat (.int .i64) ((List.length vs:Nat):Int) [])
  | _=>none
def buildG (τ:Ty) (s:Nat→SV):(x:den τ)→(ov:List (Path×Option Nat))→List (Nat×Opd)→(SV→Option R)→Option R
  | x,ov,[],K=>K (.dat τ x ov)
  | x,ov,(j,o) :: r,K=>match evO s o with
    | .dat σ y ov'=>match setP τ [j] x ⟨σ,y⟩ with
      | some x'=>buildG τ s x' (ovDrop [j] ov ++ ovPre [j] ov') r K
      | none=>none
    | _=>none
def nilsG (τ:Ty) (x:den τ) (h:Nat→Obj):List (Path×Nat)→Option (List (Path×Option Nat)×Eff)
  | []=>some ([],[])
  | (p,k) :: r=>match h k,getP p τ x,r.any (fun q=>Nat.beq q.2 k || pathEq q.1 p),nilsG τ x h r with
    | .none,some ⟨.sl e,_⟩,false,some (ov,es)=>some ((p,some k) :: ov,(k,.arr e []) :: es)
    | _,_,_,_=>none
def partsG (e:Ty) (s:Nat→SV):List Opd→Option (List (den e))
  | []=>some []
  | o :: r=>match evO s o with
    | .dat σ y []=>match castT σ e y with
      | some z=>match partsG e s r with
        | some zs=>some (z :: zs)
        | none=>none
      | none=>none
    | _=>none
end
mutual
def noSl:Ty→Bool
  | .sl _=>false
  | .arr _ e=>noSl e
  | .st fs=>noSlL fs
  | _=>true
def noSlL:List Ty→Bool
  | []=>true
  | t :: r=>noSl t && noSlL r
end
def tame:List Sh→Bool
  | []=>true
  | .d τ :: r=>noSl τ && tame r
  | _ :: _=>false
def ovIds:List (Path×Option Nat)→List Nat
  | []=>[]
  | (_,some g) :: r=>g :: ovIds r
  | (_,none) :: r=>ovIds r
def selfOf (g:Nat):Path→SV→Option (FuncId×List SV)
  | [],.clo f (.ptr g' [] :: caps)=>match Nat.beq g g' with | true=>some (f,caps) | false=>none
  | _,_=>none
mutual
def lend (h:Nat→Obj):Nat→SV→Option (SV×List Nat)
  | 0,_=>none
  | n+1,v=>match v with
    | .dat τ x ov=>match resolve h τ x ov with
      | some y=>some (.dat τ y [],ovIds ov)
      | none=>none
    | .ptr g p=>match h g with
      | .box τ x ov=>match resolve h τ x ov with
        | some y=>match getP p τ y with
          | some d=>some (.ref d.τ d.x,g :: ovIds ov)
          | none=>none
        | none=>none
      | .fbox τ x ov=>match resolve h τ x ov with
        | some y=>match getP p τ y with
          | some d=>some (.ref d.τ d.x,g :: ovIds ov)
          | none=>none
        | none=>none
      | .boxv v=>match selfOf g p v with
        | some (f,caps)=>match lendL h n caps with
          | some (us,ids)=>some (.selfc f us,g :: ids)
          | none=>none
        | none=>match getV v p with
          | some v=>match lend h n v with
            | some (u,ids)=>some (.refv u,g :: ids)
            | none=>none
          | none=>none
      | .fboxv v=>match selfOf g p v with
        | some (f,caps)=>match lendL h n caps with
          | some (us,ids)=>some (.selfc f us,g :: ids)
          | none=>none
        | none=>match getV v p with
          | some v=>match lend h n v with
            | some (u,ids)=>some (.refv u,g :: ids)
            | none=>none
          | none=>none
      | _=>none
    | .ref τ x=>some (.ref τ x,[])
    | .refv v=>match lend h n v with | some (u,ids)=>some (.refv u,ids) | none=>none
    | .selfc f caps=>match lendL h n caps with | some (us,ids)=>some (.selfc f us,ids) | none=>none
    | .clo f caps=>match lendL h n caps with | some (us,ids)=>some (.clo f us,ids) | none=>none
    | .agv vs=>match lendL h n vs with | some (us,ids)=>some (.agv us,ids) | none=>none
    | .slv vs=>match lendL h n vs with | some (us,ids)=>some (.slv us,ids) | none=>none
    | .nilfn=>some (.nilfn,[])
    | _=>none
def lendL (h:Nat→Obj):Nat→List SV→Option (List SV×List Nat)
  | 0,_=>none
  | _+1,[]=>some ([],[])
  | n+1,v :: vs=>match lend h n v with
    | some (u,ids)=>match lendL h n vs with
      | some (us,ids')=>some (u :: us,ids ++ ids')
      | none=>none
    | none=>none
end
def freezeE (h:Nat→Obj):List Nat→Option Eff
  | []=>some []
  | g :: r=>match h g with
    | .arr e l=>match freezeE h r with | some es=>some ((g,.frz e l) :: es) | none=>none
    | .frz _ _=>freezeE h r
    | .box τ x ov=>match freezeE h r with | some es=>some ((g,.fbox τ x ov) :: es) | none=>none
    | .boxv v=>match freezeE h r with | some es=>some ((g,.fboxv v) :: es) | none=>none
    | .fbox .. => freezeE h r
    | .fboxv _=>freezeE h r
    | _=>none
abbrev Fresh:=List (Nat×Path)
def freshHas (fr:Fresh) (k:Nat×Path):Bool:=fr.any fun f=>Nat.beq f.1 k.1 && pathEq f.2 k.2
def keepAll (fr:Fresh):List ((Nat×Path)×Nat)→Bool
  | []=>true
  | (k,_) :: r=>freshHas fr k && !(r.any fun q=>Nat.beq q.1.1 k.1 && pathEq q.1.2 k.2) && keepAll fr r
def keepG:List SV→List ((Nat×Path)×Nat)→Option (List SV×Eff)
  | vs,[]=>some (vs,[])
  | vs,((i,p),k) :: r=>match vs[i]? with
    | some (.dat τ x ov)=>match getP p τ x with
      | some ⟨.sl e,l⟩=>match setP τ p x ⟨.sl e,[]⟩ with
        | some x'=>match keepG (vs.set i (.dat τ x' (ov ++ [(p,some k)]))) r with
          | some (us,es)=>some (us,(k,.arr e l) :: es)
          | none=>none
        | none=>none
      | _=>none
    | _=>none
section
variable {R:Type}
def bundle:List SV→SV
  | [v]=>v
  | vs=>.tup vs
def mapFind (κ ν:Ty) (i:den κ):List (den κ×den ν)→Option (den ν)
  | []=>none
  | (k,v) :: r=>if eqT κ i k then some v else mapFind κ ν i r
def mapPut (κ ν:Ty) (i:den κ) (x:den ν):List (den κ×den ν)→List (den κ×den ν)
  | []=>[(i,x)]
  | (k,v) :: r=>if eqT κ i k then (i,x) :: r else (k,v) :: mapPut κ ν i x r
def mapIx (κ ν:Ty) (i:den κ):List (den κ×den ν)→Nat
  | []=>0
  | (k,_) :: r=>if eqT κ i k then 0 else mapIx κ ν i r+1
def mapEnt (κ ν:Ty) (i:den κ) (l:List (den κ×den ν)):List (den κ×den ν):=match mapFind κ ν i l with
  | some _=>l
  | none=>l ++ [(i,dft ν)]
def mapSet (κ ν:Ty):Nat→den ν→List (den κ×den ν)→List (den κ×den ν)
  | _,_,[]=>[]
  | 0,x,(k,_) :: r=>(k,x) :: r
  | n+1,x,e :: r=>e :: mapSet κ ν n x r
def intsG (s:Nat→SV):List Opd→Option (IntKind×List Int)
  | []=>none
  | [o]=>match evO s o with | .dat (.int k) n _=>some (k,[n]) | _=>none
  | o :: r=>match evO s o with
    | .dat (.int k) n _=>match intsG s r with
      | some (k',l)=>if k=k' then some (k,n :: l) else none
      | none=>none
    | _=>none
abbrev Calls:=FuncId→List SV→(res:List Sh)→Option (dShL res×Fresh)
def keepFree (h:Nat→Obj):List ((Nat×Path)×Nat)→Bool
  | []=>true
  | (_,k) :: r=>(match h k with | .none=>true | _=>false) && keepFree h r && !(r.any fun q=>Nat.beq q.2 k)
def callK (h:Nat→Obj) (ids:List Nat) (res:List Sh) (x:dShL res) (keep:List ((Nat×Path)×Nat)) (K:SV→Eff→Option R):Option R :=
  match (match tame res,keep with | true,[]=>some [] | _,_=>freezeE h ids) with
  | some es=>(match keepG (injL res x) keep with
    | some (vs,es')=>K (bundle vs) (es ++ es')
    | none=>none)
  | none=>none
def callG (cf:Calls) (h:Nat→Obj) (f:SV) (args:List SV) (res:List Sh) (keep:List ((Nat×Path)×Nat)) (opt:Bool) (K:SV→Eff→Option R):Option R :=
  match f with
  | .clo fid caps=>match lendL h 60 (args ++ caps) with
    | some (as,ids)=>(cf fid as res).bind fun r =>
        bif keepAll r.2 keep then (bif keepFree h keep then callK h ids res r.1 keep K else none)
        else (match opt with | true=>callK h ids res r.1 [] K | false=>none)
    | none=>none
  | .refv _=>none
  | _=>none
def gop (cf:Calls) (s:Nat→SV) (h:Nat→Obj) (o:GOp) (K:SV→Eff→Option R):Option R :=
  match o with
  | .move x=>K (evO s x) []
  | .mknil k e=>match h k with
    | .none=>K (.dat (.sl e) [] [([],some k)]) [(k,.arr e [])]
    | _=>none
  | .pick c a b=>match evO s c with
    | .dat .bool t _=>(match evO s a,evO s b with
      | .dat .bool x _,.dat .bool y _=>K (.dat .bool (bif t then x else y) []) []
      | .dat .bool x _,.und=>bif t then K (.dat .bool x []) [] else none
      | .und,.dat .bool y _=>bif t then none else K (.dat .bool y []) []
      | _,_=>none)
    | _=>none
  | .newbox k τ nils=>match h k,nilsG τ (dft τ) h nils,nils.any (fun q=>Nat.beq q.2 k) with
    | .none,some (ov,es),false=>K (.ptr k []) ((k,.box τ (dft τ) ov) :: es)
    | _,_,_=>none
  | .newboxv k z=>match h k,zeroV z with
    | .none,true=>K (.ptr k []) [(k,.boxv z)]
    | _,_=>none
  | .box k x=>match h k with
    | .none=>(match evO s x with
      | .dat τ x ov=>K (.ptr k []) [(k,.box τ x ov)]
      | .clo f caps=>K (.ptr k []) [(k,.boxv (.clo f caps))]
      | _=>none)
    | _=>none
  | .load t a=>loadT t h (evO s a) fun v=>K v []
  | .store t a v=>(match okL t (evO s v) with | true=>storeG h (evO s a) (evO s v) fun e=>K .junk e | false=>none)
  | .bin op x y=>binG op (evO s x) (evO s y) fun v=>K v []
  | .eqs τ neg x y=>eqsG τ neg (evO s x) (evO s y) fun v=>K v []
  | .not x=>match evO s x with | .dat .bool b _=>K (.dat .bool (!b) []) [] | _=>none
  | .neg x=>match evO s x with | .dat (.int k) n _=>K (.dat (.int k) (k.wrap (0 - n)) []) [] | _=>none
  | .conv k x=>match evO s x with | .dat (.int _) n _=>K (.dat (.int k) (k.wrap n) []) [] | _=>none
  | .fieldAddr t j a=>fieldAG h t j (evO s a) fun v=>K v []
  | .field τ j a=>match evO s a with
    | .dat σ x ov=>(match tyEq σ τ with | some _=>subD σ x ov [j] fun v=>K v [] | none=>none)
    | _=>none
  | .index t x i=>indexG t h (evO s x) (evO s i) fun v=>K v []
  | .len x=>lenG h (evO s x) fun v=>K v []
  | .lens x=>match evO s x with
    | .dat .str y _=>K (.dat (.int .i64) ((ByteArray.size y:Nat):Int) []) []
    | _=>none
  | .max xs=>match intsG s xs with | some (k,n :: l)=>K (.dat (.int k) (l.foldl (fun a b=>if a<b then b else a) n) []) [] | _=>none
  | .min xs=>match intsG s xs with | some (k,n :: l)=>K (.dat (.int k) (l.foldl (fun a b=>if b<a then b else a) n) []) [] | _=>none
  | .build τ parts nils=>match nilsG τ (dft τ) h nils with
    | some (ov,es)=>buildG τ s (dft τ) ov parts fun v=>K v es
    | none=>none
  | .buildv sizes parts=>match sizedL sizes (parts.map (evO s)) with | true=>K (.agv (parts.map (evO s))) [] | false=>none
  | .slice k e parts=>match h k,partsG e s parts with
    | .none,some l=>K (.dat (.sl e) [] [([],some k)]) [(k,.arr e l)]
    | _,_=>none
  | .slicev n parts=>match sizedA n (parts.map (evO s)) with | true=>K (.slv (parts.map (evO s))) [] | false=>none
  | .make k e n=>match h k,evO s n with
    | .none,.dat (.int _) n _=>if 0≤n∧n≤1048576 then K (.dat (.sl e) [] [([],some k)]) [(k,.arr e (List.replicate n.toNat (dft e)))] else none
    | _,_=>none
  | .append k e x y=>match evO s x,evO s y,h k with
    | .dat (.sl e0) _ [([],some g)],.dat σ l' ov',.none=>(match h g with
      | .arr e1 l=>(match tyEq e0 e,tyEq e1 e,resolve h σ l' ov' with
        | some _,some _,some l'=>(match castT σ (.sl e1) l' with
          | some l'=>if List.length l+List.length l'≤1048576 then K (.dat (.sl e) [] [([],some k)]) [(g,.dead),(k,.arr e1 (l ++ l'))] else none
          | none=>none)
        | _,_,_=>none)
      | _=>none)
    | _,_,_=>none
  | .extract x i=>match evO s x with | .tup vs=>(match vs[i]? with | some v=>K v [] | none=>none) | _=>none
  | .func f caps=>K (.clo f (caps.map (evO s))) []
  | .mkmap k κ ν=>match h k with
    | .none=>K (.ptr k []) [(k,.map κ ν [])]
    | _=>none
  | .lookup κ0 ν0 m i=>match evO s m,evO s i with
    | .ptr g [],.dat σ y []=>(match h g with
      | .map κ ν l=>(match castT σ κ y,tyEq κ κ0,tyEq ν ν0 with
        | some i,some _,some _=>K (.dat ν ((mapFind κ ν i l).getD (dft ν)) []) []
        | _,_,_=>none)
      | _=>none)
    | _,_=>none
  | .mapset κ0 ν0 m i v=>match evO s m,evO s i,evO s v with
    | .ptr g [],.dat σ y [],.dat ρ z []=>(match h g with
      | .map κ ν l=>(match castT σ κ y,castT ρ ν z,tyEq κ κ0,tyEq ν ν0 with
        | some i,some x,some _,some _=>K .junk [(g,.map κ ν (mapPut κ ν i x l))]
        | _,_,_,_=>none)
      | _=>none)
    | _,_,_=>none
  | .mapent κ0 ν0 m i=>match evO s m,evO s i with
    | .ptr g [],.dat σ y []=>(match h g with
      | .map κ ν l=>(match castT σ κ y,tyEq κ κ0,tyEq ν ν0 with
        | some i,some _,some _=>K (.tup [.dat ν ((mapFind κ ν i l).getD (dft ν)) [],.dat (.int .i64) ((mapIx κ ν i l:Nat):Int) []]) [(g,.map κ ν (mapEnt κ ν i l))]
        | _,_,_=>none)
      | _=>none)
    | _,_=>none
  | .mapst κ0 ν0 m e v=>match evO s m,evO s e,evO s v with
    | .ptr g [],.dat (.int .i64) n _,.dat ρ z []=>(match h g with
      | .map κ ν l=>(match castT ρ ν z,tyEq κ κ0,tyEq ν ν0 with
        | some x,some _,some _=>if (0:Int)≤n∧n<((List.length l:Nat):Int) then K .junk [(g,.map κ ν (mapSet κ ν (Int.toNat n) x l))] else none
        | _,_,_=>none)
      | _=>none)
    | _,_,_=>none
  | .lookv m i ok=>match evO s m,evO s i with
    | .fmap ks vs,.dat (.int .i64) n []=>lookV n ks vs fun v b=>K (lkRes ok v b) []
    | _,_=>none
  | .slx e x lo hi=>match evO s x with
    | .dat (.sl _) _ [([],some g)]=>(match h g with
      | .frz e1 l=>(match tyEq e1 e,bndG s lo 0,bndG s hi ((List.length l:Nat):Int) with
        | some _,some a,some b=>if 0≤a∧a≤b∧b≤((List.length l:Nat):Int) then K (.dat (.sl e1) ((l.take b.toNat).drop a.toNat) []) [] else none
        | _,_,_=>none)
      | _=>none)
    | .dat (.sl e1) l []=>(match tyEq e1 e,bndG s lo 0,bndG s hi ((List.length l:Nat):Int) with
      | some _,some a,some b=>if 0≤a∧a≤b∧b≤((List.length l:Nat):Int) then K (.dat (.sl e1) ((List.take b.toNat l).drop a.toNat) []) [] else none
      | _,_,_=>none)
    | _=>none
  | .call f args res keep opt=>callG cf h (evO s f) (args.map (evO s)) res keep opt K
  | .fail=>none
  | .slicearr M σ x=>match evO s x with
    | .glo k=>globSl (globs k) M σ fun l=>K (.dat (.sl σ) l []) []
    | .ptr g []=>(match h g with
      | .box (.arr N e) l []=>(match tyEq e σ,Nat.beq N M with | some _,true=>K (.dat (.sl e) l []) [(g,.dead)] | _,_=>none)
      | _=>none)
    | _=>none
structure Ln where
  d:Option Nat
  op:GOp
  g:Option (Nat×Bool):=none
  rd:List Nat:=[]
  wr:List Nat:=[]
inductive Cd where
  | skip
  | reg (draw:Bool) (l:List Ln)
  | tidy (kill:List Nat) (mv:List (Nat×Nat)) (drop:List Nat) (trunc:Option Nat)
  | frz (ids:List Nat)
  | seq (a b:Cd)
  | cond (c:Opd) (a b:Cd)
  | block (id:Nat) (a:Cd)
  | loop (a:Cd)
  | exit (id:Nat)
  | ret
inductive Ex where
  | norm | exit (id:Nat) | ret
def mask (ids:List Nat) (h:Nat→Obj):Nat→Obj:=fun g=>match ids.any (Nat.beq g) with | true=>h g | false=>.hid
def effIn (wr:List Nat):Eff→Bool
  | []=>true
  | (g,_) :: r=>wr.any (Nat.beq g) && effIn wr r
def opLn (cf:Calls) (draw:Bool) (l:Ln) (s:Slots) (h:Heap) (K:Slots→Heap→Option R):Option R :=
  match draw with
  | false=>gop cf (getS s) (getO h) l.op fun v e=>K (putO s l.d v) (applyE h e)
  | true=>gop cf (getS s) (mask (l.rd ++ l.wr) (getO h)) l.op fun v e=>match effIn l.wr e with
    | true=>K (putO s l.d v) (applyE h e)
    | false=>none
def runLns (cf:Calls) (draw:Bool):List Ln→Slots→Heap→(Slots→Heap→Option R)→Option R
  | [],s,h,K=>K s h
  | l :: r,s,h,K=>match l.g with
    | none=>opLn cf draw l s h fun s h=>runLns cf draw r s h K
    | some (j,true)=>(match getS s j with
      | .dat .bool b []=>bif b then opLn cf draw l (putS s j (.dat .bool true [])) h fun s h=>runLns cf draw r s h K
          else runLns cf draw r (putO (putS s j (.dat .bool false [])) l.d .und) h K
      | .und=>runLns cf draw r (putO s l.d .und) h K
      | _=>none)
    | some (j,false)=>(match getS s j with
      | .dat .bool b []=>bif b then runLns cf draw r (putO (putS s j (.dat .bool true [])) l.d .und) h K
          else opLn cf draw l (putS s j (.dat .bool false [])) h fun s h=>runLns cf draw r s h K
      | .und=>runLns cf draw r (putO s l.d .und) h K
      | _=>none)
def ovAll (p:Nat→Bool):List (Path×Option Nat)→Bool
  | []=>true
  | (_,some g) :: r=>p g && ovAll p r
  | (_,none) :: r=>ovAll p r
mutual
def allI (p:Nat→Bool):SV→Bool
  | .dat _ _ ov=>ovAll p ov
  | .ptr g _=>p g
  | .ref _ _=>true
  | .refv v=>allI p v
  | .selfc _ caps=>allIL p caps
  | .glo _=>true
  | .elp g _ _=>p g
  | .clo _ caps=>allIL p caps
  | .tup vs=>allIL p vs
  | .slv vs=>allIL p vs
  | .fmap _ vs=>allIL p vs
  | .agv vs=>allIL p vs
  | .nilfn=>true
  | .und=>true
  | .junk=>true
def allIL (p:Nat→Bool):List SV→Bool
  | []=>true
  | v :: r=>allI p v && allIL p r
end
def allIO (p:Nat→Bool):Obj→Bool
  | .box _ _ ov=>ovAll p ov
  | .boxv v=>allI p v
  | .fbox _ _ ov=>ovAll p ov
  | .fboxv v=>allI p v
  | _=>true
def allIS (p:Nat→Bool):Slots→Bool
  | []=>true
  | (_,v) :: r=>allI p v && allIS p r
def allIH (p:Nat→Bool):Heap→Bool
  | []=>true
  | o :: r=>allIO p o && allIH p r
def neI (n g:Nat):Bool:=match Nat.beq g n with | true=>false | false=>true
def ltI (n g:Nat):Bool:=Nat.blt g n
def rnId (a b g:Nat):Nat:=match Nat.beq g a with | true=>b | false=>g
def mapOv (f:Nat→Nat):List (Path×Option Nat)→List (Path×Option Nat)
  | []=>[]
  | (q,some g) :: r=>(q,some (f g)) :: mapOv f r
  | (q,none) :: r=>(q,none) :: mapOv f r
mutual
def mapI (f:Nat→Nat):SV→SV
  | .dat τ x ov=>.dat τ x (mapOv f ov)
  | .ptr g p=>.ptr (f g) p
  | .ref τ x=>.ref τ x
  | .refv v=>.refv (mapI f v)
  | .selfc c caps=>.selfc c (mapIL f caps)
  | .glo k=>.glo k
  | .elp g i p=>.elp (f g) i p
  | .clo c caps=>.clo c (mapIL f caps)
  | .tup vs=>.tup (mapIL f vs)
  | .slv vs=>.slv (mapIL f vs)
  | .fmap ks vs=>.fmap ks (mapIL f vs)
  | .agv vs=>.agv (mapIL f vs)
  | .nilfn=>.nilfn
  | .und=>.und
  | .junk=>.junk
def mapIL (f:Nat→Nat):List SV→List SV
  | []=>[]
  | v :: r=>mapI f v :: mapIL f r
end
def mapIO (f:Nat→Nat):Obj→Obj
  | .box τ x ov=>.box τ x (mapOv f ov)
  | .boxv v=>.boxv (mapI f v)
  | .fbox τ x ov=>.fbox τ x (mapOv f ov)
  | .fboxv v=>.fboxv (mapI f v)
  | o=>o
def mapIS (f:Nat→Nat):Slots→Slots
  | []=>[]
  | (i,v) :: r=>(i,mapI f v) :: mapIS f r
def moveG (s:Slots) (h:Heap) (a b:Nat) (K:Slots→Heap→Option R):Option R :=
  match getO h a with
  | .none=>K s h
  | _=>match allIS (neI b) s && allIH (neI b) h && !(Nat.beq a b) with
  | true=>K (mapIS (rnId a b) s) (setO (setO (h.map (mapIO (rnId a b))) b (getO (h.map (mapIO (rnId a b))) a)) a .none)
  | false=>none
def movesG:List (Nat×Nat)→Slots→Heap→(Slots→Heap→Option R)→Option R
  | [],s,h,K=>K s h
  | (a,b) :: r,s,h,K=>moveG s h a b fun s h=>movesG r s h K
def dropsG:List Nat→Slots→Heap→(Slots→Heap→Option R)→Option R
  | [],s,h,K=>K s h
  | g :: r,s,h,K=>match getO h g with
    | .none=>dropsG r s h K
    | _=>match allIS (neI g) s && allIH (neI g) h with
      | true=>dropsG r s (setO h g .none) K
      | false=>none
def truncG (n:Option Nat) (s:Slots) (h:Heap) (K:Slots→Heap→Option R):Option R :=
  match n with
  | none=>K s h
  | some n=>match allIS (ltI n) s && allIH (ltI n) (h.take n) with
    | true=>K s (h.take n)
    | false=>none
abbrev Kt (R:Type):=Ex→Slots→Heap→Option R
def loopN (body:Kt R→Kt R→Slots→Heap→Option R):Nat→Kt R→Slots→Heap→Option R
  | 0,_,_,_=>none
  | m+1,K,s,h=>body (fun _ s h=>loopN body m K s h) K s h
def kSeq (run:Cd→Kt R→Kt R→Slots→Heap→Option R) (b:Cd) (Kn K:Kt R):Kt R:=fun _ s h=>run b Kn K s h
def kBlk (id:Nat) (Kn K:Kt R):Kt R:=fun ex s h=>match ex with
  | .exit i=>(match Nat.beq i id with | true=>Kn .norm s h | false=>K (.exit i) s h)
  | ex=>K ex s h
def run (cf:Calls) (lp:Nat):Cd→Kt R→Kt R→Slots→Heap→Option R
  | .skip,Kn,_,s,h=>Kn .norm s h
  | .reg draw l,Kn,_,s,h=>runLns cf draw l s h fun s h=>Kn .norm s h
  | .tidy kill mv dr tr,Kn,_,s,h=>movesG mv (killS kill s) h fun s h=>dropsG dr s h fun s h=>truncG tr s h fun s h=>Kn .norm s h
  | .frz ids,Kn,_,s,h=>match freezeE (getO h) ids with
    | some es=>Kn .norm s (applyE h es)
    | none=>none
  | .seq a b,Kn,K,s,h=>run cf lp a (fun _ s h=>run cf lp b Kn K s h) K s h
  | .cond c a b,Kn,K,s,h=>match evO (getS s) c with
    | .dat .bool t _=>bif t then run cf lp a Kn K s h else run cf lp b Kn K s h
    | _=>none
  | .block id a,Kn,K,s,h=>run cf lp a Kn (kBlk id Kn K) s h
  | .loop a,_,K,s,h=>loopN (fun Kn K s h=>run cf lp a Kn K s h) lp K s h
  | .exit id,_,K,s,h=>K (.exit id) s h
  | .ret,_,K,s,h=>K .ret s h
inductive RV where
  | tmp (t:Nat)
  | cell (t:Nat) (l:LT)
structure Fn where
  np:Nat
  res:List RV
  body:Cd
def argsS:Nat→List SV→Slots
  | _,[]=>[]
  | i,v :: r=>(i,v) :: argsS (i+1) r
def stPath:Path→Ty→Bool
  | [],.sl _=>true
  | i :: p,.st fs=>(match fs[i]? with | some t=>stPath p t | none=>false)
  | _,_=>false
def ovFine (τ:Ty):List (Path×Option Nat)→Bool
  | []=>true
  | (q,_) :: r=>stPath q τ && !(r.any fun e=>pathEq e.1 q) && ovFine τ r
def resOne (s:Nat→SV) (h:Nat→Obj):RV→Option (SV×List (Path×Nat)×List Nat)
  | .tmp t=>resFin h (s t)
  | .cell t l=>loadT l h (s t) fun v=>resFin h v
where
  resFin (h:Nat→Obj) (v:SV):Option (SV×List (Path×Nat)×List Nat):=match v with
    | .dat τ x ov=>match resolve h τ x ov with
      | some y=>(match ovFine τ ov with | true=>some (.dat τ y [],ovOwn h ov,[]) | false=>some (.dat τ y [],[],ovIds ov))
      | none=>none
    | v=>match lend h 60 v with | some (u,ids)=>some (u,[],ids) | none=>none
  ovOwn (h:Nat→Obj):List (Path×Option Nat)→List (Path×Nat)
    | []=>[]
    | (q,some g) :: r=>(match h g with | .arr _ _=>(q,g) :: ovOwn h r | _=>ovOwn h r)
    | (_,none) :: r=>ovOwn h r
def resAll (s:Nat→SV) (h:Nat→Obj):Nat→List RV→Option (List SV×List ((Nat×Path)×Nat)×List Nat)
  | _,[]=>some ([],[],[])
  | i,r :: rs=>match resOne s h r with
    | some (v,o,l)=>match resAll s h (i+1) rs with
      | some (vs,os,ls)=>some (v :: vs,o.map (fun q=>((i,q.1),q.2)) ++ os,l ++ ls)
      | none=>none
    | none=>none
def nodupIds:List ((Nat×Path)×Nat)→Bool
  | []=>true
  | (_,g) :: r => !(r.any fun q=>Nat.beq q.2 g) && nodupIds r
def nodupKeys:List ((Nat×Path)×Nat)→Bool
  | []=>true
  | (k,_) :: r => !(r.any fun q=>Nat.beq q.1.1 k.1 && pathEq q.1.2 k.2) && nodupKeys r
def freshOf (o:List ((Nat×Path)×Nat)) (l:List Nat):Fresh:=match nodupIds o && nodupKeys o && o.all (fun q => !(l.any (Nat.beq q.2))) with
  | true=>o.map (·.1)
  | false=>[]
def retK (fn:Fn) (res:List Sh):Kt (dShL res×Fresh):=fun ex s h =>
  match ex with
  | .exit _=>none
  | _=>match resAll (getS s) (getO h) 0 fn.res with
  | some (vs,o,l)=>match prjL res vs with
    | some x=>some (x,freshOf o l)
    | none=>none
  | none=>none
def gcall (prog:FuncId→Option Fn) (sp:Calls):Nat→Calls
  | 0,_,_,_=>none
  | n+1,f,as,res=>match prog f with
    | some fn=>match Nat.beq as.length fn.np with
      | true=>run (gcall prog sp n) n fn.body (retK fn res) (retK fn res) (argsS 0 as) []
      | false=>none
    | none=>sp f as res
end
end Go.Proofs.YtjobjooccgledaaDoor.Ghost
namespace Go.Proofs.YtjobjooccgledaaDoor.Ghost
open Go
mutual
def offP:Ty→Path→Nat
  | .st fs,i :: p=>offF fs i p
  | .arr _ e,i :: p=>i * tsize e+offP e p
  | _,_=>0
def offF:List Ty→Nat→Path→Nat
  | [],_,_=>0
  | t :: _,0,p=>offP t p
  | t :: r,n+1,p=>tsize t+offF r n p
end
mutual
def okP:Ty→Path→Prop
  | _,[]=>True
  | .st fs,i :: p=>okF fs i p
  | .arr n e,i :: p=>i<n∧okP e p
  | _,_=>False
def okF:List Ty→Nat→Path→Prop
  | [],_,_=>False
  | t :: _,0,p=>okP t p
  | _ :: r,n+1,p=>okF r n p
end
structure Spot where
  b:Nat
  len:Nat
  cap:Nat
  es:Nat
  mp:Bool
  off:Path→Nat
  ok:Path→Prop
abbrev Refs:=Nat→Option Spot
abbrev Ov:=List (Path×Option Nat)
def HeadO (ρ:Refs) (g:Nat) (v:Value):Prop :=
  ∃ s a,ρ g=some s∧s.mp=false∧v=.slice a s.len s.cap∧(0<s.cap→a=some ⟨s.b,0,none⟩)
mutual
def RepC (A:Nat→Prop) (ρ:Refs) (w:World):(τ:Ty)→den τ→Ov→List Value→Prop
  | .bool,x,_,cs=>cs=[.bool x]
  | .int k,x,_,cs=>cs=[.int k x]
  | .str,x,_,cs=>cs=[.string x]
  | .sl e,l,ov,cs=>∃ a n c,cs=[.slice a n c]∧(∀ g,([],some g)∈ov→HeadO ρ g (.slice a n c)) ∧
      ((∀ o,([],o) ∉ ov)→n=List.length l∧n≤c∧(0<n→∃ b o ds,a=some ⟨b,o,none⟩∧A b∧w.rangeAt b o ds∧ds.length=n * tsize e ∧
        ∀ i,i<n→RepC A ρ w e (List.getD l i (dft e)) [] ((ds.drop (i * tsize e)).take (tsize e))))
  | .arr n e,l,ov,cs=>List.length l=n∧cs.length=n * tsize e ∧
      ∀ i,i<n→RepC A ρ w e (List.getD l i (dft e)) (ovSub [i] ov) ((cs.drop (i * tsize e)).take (tsize e))
  | .st fs,x,ov,cs=>RepF A ρ w fs 0 x ov cs
def RepF (A:Nat→Prop) (ρ:Refs) (w:World):(fs:List Ty)→Nat→denL fs→Ov→List Value→Prop
  | [],_,_,_,cs=>cs=[]
  | t :: r,j,x,ov,cs=>RepC A ρ w t x.1 (ovSub [j] ov) (cs.take (tsize t))∧RepF A ρ w r (j+1) x.2 ov (cs.drop (tsize t))
end
mutual
theorem RepC.length {A:Nat→Prop} {ρ:Refs} {w:World}:(τ:Ty)→{x:den τ}→{ov:Ov}→{cs:List Value}→RepC A ρ w τ x ov cs→cs.length=tsize τ
  | .bool,_,_,_,h=>by simp only [RepC] at h; subst h; rfl
  | .int _,_,_,_,h=>by simp only [RepC] at h; subst h; rfl
  | .str,_,_,_,h=>by simp only [RepC] at h; subst h; rfl
  | .sl _,_,_,_,h=>by simp only [RepC] at h; obtain ⟨_,_,_,rfl,_⟩:=h; rfl
  | .arr n e,_,_,_,h=>by simp only [RepC] at h; simpa only [tsize] using h.2.1
  | .st fs,_,_,_,h=>by simp only [RepC] at h; simpa only [tsize] using RepF.length fs h
theorem RepF.length {A:Nat→Prop} {ρ:Refs} {w:World}:(fs:List Ty)→{j:Nat}→{x:denL fs}→{ov:Ov}→{cs:List Value}→RepF A ρ w fs j x ov cs→cs.length=tsizeL fs
  | [],_,_,_,_,h=>by simp only [RepF] at h; subst h; rfl
  | t :: r,_,_,_,_,h=>by
    simp only [RepF] at h
    have h1:=RepC.length t h.1
    have h2:=RepF.length r h.2
    simp only [List.length_take,List.length_drop] at h1 h2
    simp only [tsizeL]
    omega
end
mutual
theorem RepC.mono {A A':Nat→Prop} {ρ ρ':Refs} {w w':World} (hA:∀ b,A b→A' b) (hρ:∀ g s,ρ g=some s→ρ' g=some s)
    (hw:∀ b,A b→w'.heap[b]?=w.heap[b]?):(τ:Ty)→{x:den τ}→{ov:Ov}→{cs:List Value}→RepC A ρ w τ x ov cs→RepC A' ρ' w' τ x ov cs
  | .bool,_,_,_,h=>by simpa only [RepC] using h
  | .int _,_,_,_,h=>by simpa only [RepC] using h
  | .str,_,_,_,h=>by simpa only [RepC] using h
  | .sl e,_,_,_,h=>by
    simp only [RepC] at h ⊢
    obtain ⟨a,n,c,h1,h2,h3⟩:=h
    refine ⟨a,n,c,h1,fun g hg => ?_,fun hn=>⟨(h3 hn).1,(h3 hn).2.1,fun hp => ?_⟩⟩
    · obtain ⟨s,ad,k1,k2⟩:=h2 g hg
      exact ⟨s,ad,hρ _ _ k1,k2⟩
    · obtain ⟨b,o,ds,k1,k2,k3,k4,k5⟩:=(h3 hn).2.2 hp
      refine ⟨b,o,ds,k1,hA b k2,fun j v hv => ?_,k4,fun i hi=>RepC.mono hA hρ hw e (k5 i hi)⟩
      have:=k3 j v hv
      unfold World.cell? at this ⊢
      simp only [hw b k2]
      exact this
  | .arr n e,_,_,_,h=>by
    simp only [RepC] at h ⊢
    exact ⟨h.1,h.2.1,fun i hi=>RepC.mono hA hρ hw e (h.2.2 i hi)⟩
  | .st fs,_,_,_,h=>by simp only [RepC] at h ⊢; exact RepF.mono hA hρ hw fs h
theorem RepF.mono {A A':Nat→Prop} {ρ ρ':Refs} {w w':World} (hA:∀ b,A b→A' b) (hρ:∀ g s,ρ g=some s→ρ' g=some s)
    (hw:∀ b,A b→w'.heap[b]?=w.heap[b]?):(fs:List Ty)→{j:Nat}→{x:denL fs}→{ov:Ov}→{cs:List Value}→RepF A ρ w fs j x ov cs→RepF A' ρ' w' fs j x ov cs
  | [],_,_,_,_,h=>by simpa only [RepF] using h
  | t :: r,_,_,_,_,h=>by
    simp only [RepF] at h ⊢
    exact ⟨RepC.mono hA hρ hw t h.1,RepF.mono hA hρ hw r h.2⟩
end
theorem mem_ovSub {p q:Path} {o:Option Nat}:{ov:Ov}→((q,o)∈ovSub p ov↔(p ++ q,o)∈ov):=by
  have strip_iff:∀ (p q r:Path),strip p q=some r↔q=p ++ r:=by
    intro p
    induction p with
    | nil=>intro q r; simp [strip,eq_comm]
    | cons i p ih =>
      intro q r
      cases q with
      | nil=>simp [strip]
      | cons j q =>
        simp only [strip]
        cases hb:Nat.beq i j with
        | true =>
          have:=Nat.eq_of_beq_eq_true hb
          subst this
          simp [ih]
        | false =>
          have:i≠j:=fun e=>by subst e; simp [Nat.beq_refl] at hb
          simp [Ne.symm this]
  intro ov
  induction ov with
  | nil=>simp [ovSub]
  | cons e r ih =>
    obtain ⟨q',o'⟩:=e
    simp only [ovSub]
    cases hs:strip p q' with
    | none =>
      simp only [List.mem_cons,Prod.mk.injEq]
      rw [ih]
      constructor
      · exact .inr
      · rintro (⟨h,_⟩ | h)
        · rw [(strip_iff p q' q).2 h.symm] at hs; cases hs
        · exact h
    | some q'' =>
      have:=(strip_iff p q' q'').1 hs
      subst this
      simp only [List.mem_cons,Prod.mk.injEq,ih,List.append_cancel_left_eq]
theorem ovSub_congr {ov ov':Ov} (h:∀ e,e∈ov↔e∈ov') (p:Path):∀ e,e∈ovSub p ov↔e∈ovSub p ov':=fun ⟨q,o⟩=>by
  rw [mem_ovSub,mem_ovSub]; exact h _
mutual
theorem RepC.ov {A:Nat→Prop} {ρ:Refs} {w:World}:(τ:Ty)→{x:den τ}→{ov ov':Ov}→{cs:List Value}→(∀ e,e∈ov↔e∈ov')→RepC A ρ w τ x ov cs→RepC A ρ w τ x ov' cs
  | .bool,_,_,_,_,_,h=>by simpa only [RepC] using h
  | .int _,_,_,_,_,_,h=>by simpa only [RepC] using h
  | .str,_,_,_,_,_,h=>by simpa only [RepC] using h
  | .sl e,_,_,_,_,he,h=>by
    simp only [RepC] at h ⊢
    obtain ⟨a,n,c,h1,h2,h3⟩:=h
    exact ⟨a,n,c,h1,fun g hg=>h2 g ((he _).2 hg),fun hn=>h3 (fun o ho=>hn o ((he _).1 ho))⟩
  | .arr n e,_,_,_,_,he,h=>by
    simp only [RepC] at h ⊢
    exact ⟨h.1,h.2.1,fun i hi=>RepC.ov e (ovSub_congr he _) (h.2.2 i hi)⟩
  | .st fs,_,_,_,_,he,h=>by simp only [RepC] at h ⊢; exact RepF.ov fs he h
theorem RepF.ov {A:Nat→Prop} {ρ:Refs} {w:World}:(fs:List Ty)→{j:Nat}→{x:denL fs}→{ov ov':Ov}→{cs:List Value}→(∀ e,e∈ov↔e∈ov')→RepF A ρ w fs j x ov cs→RepF A ρ w fs j x ov' cs
  | [],_,_,_,_,_,_,h=>by simpa only [RepF] using h
  | t :: r,_,_,_,_,_,he,h=>by
    simp only [RepF] at h ⊢
    exact ⟨RepC.ov t (ovSub_congr he _) h.1,RepF.ov r he h.2⟩
end
theorem ovSub_ovSub (p q:Path) (ov:Ov):∀ e,e∈ovSub q (ovSub p ov)↔e∈ovSub (p ++ q) ov:=fun ⟨r,o⟩=>by
  rw [mem_ovSub,mem_ovSub,mem_ovSub,List.append_assoc]
def cut (cs:List Value) (o n:Nat):List Value:=(cs.drop o).take n
theorem cut_cut (cs:List Value) (o n o' n':Nat) (h:o'+n'≤n):cut (cut cs o n) o' n'=cut cs (o+o') n':=by
  unfold cut
  rw [List.drop_take,List.drop_drop,List.take_take,Nat.min_eq_left (by omega)]
theorem cut_zero (cs:List Value) (n:Nat):cut cs 0 n=cs.take n:=rfl
theorem cut_all (cs:List Value) (n:Nat) (h:cs.length=n):cut cs 0 n=cs:=by subst h; simp [cut]
mutual
theorem offP_le:(τ:Ty)→(p:Path)→(x:den τ)→(d:Dyn)→okP τ p→getP p τ x=some d→offP τ p+tsize d.τ≤tsize τ
  | τ,[],x,d,_,h=>by
    have:d=⟨τ,x⟩:=by cases τ <;> simpa [getP,eq_comm] using h
    subst this
    cases τ <;> simp [offP]
  | .st fs,i :: p,x,d,hk,h=>by
    simp only [offP,tsize]
    simp only [okP] at hk
    simp only [getP] at h
    exact offF_le fs i p x d hk h
  | .arr n e,i :: p,x,d,hk,h=>by
    simp only [offP,tsize]
    simp only [okP] at hk
    simp only [getP] at h
    have h1:=offP_le e p _ d hk.2 h
    have:(i+1) * tsize e≤n * tsize e:=Nat.mul_le_mul_right _ hk.1
    rw [Nat.add_mul,Nat.one_mul] at this
    omega
  | .bool,_ :: _,_,_,hk,_=>by simp [okP] at hk
  | .int _,_ :: _,_,_,hk,_=>by simp [okP] at hk
  | .str,_ :: _,_,_,hk,_=>by simp [okP] at hk
  | .sl _,_ :: _,_,_,hk,_=>by simp [okP] at hk
theorem offF_le:(fs:List Ty)→(i:Nat)→(p:Path)→(x:denL fs)→(d:Dyn)→okF fs i p →
    (match getF fs i x with | some d=>getP p d.τ d.x | none=>none)=some d→offF fs i p+tsize d.τ≤tsizeL fs
  | [],_,_,_,_,hk,_=>by simp [okF] at hk
  | t :: r,0,p,x,d,hk,h=>by
    simp only [okF] at hk
    simp only [getF] at h
    have:=offP_le t p x.1 d hk h
    simp only [offF,tsizeL]
    omega
  | t :: r,n+1,p,x,d,hk,h=>by
    simp only [okF] at hk
    simp only [getF] at h
    have:=offF_le r n p x.2 d hk h
    simp only [offF,tsizeL]
    omega
end
mutual
theorem RepC.getP {A:Nat→Prop} {ρ:Refs} {w:World}:(τ:Ty)→(p:Path)→{x:den τ}→{ov:Ov}→{cs:List Value}→{d:Dyn}→RepC A ρ w τ x ov cs→okP τ p →
    getP p τ x=some d→RepC A ρ w d.τ d.x (ovSub p ov) (cut cs (offP τ p) (tsize d.τ))
  | τ,[],x,ov,cs,d,h,_,hg=>by
    have:d=⟨τ,x⟩:=by cases τ <;> simpa [Ghost.getP,eq_comm] using hg
    subst this
    have h0:offP τ []=0:=by cases τ <;> rfl
    rw [h0,cut_all _ _ (RepC.length τ h)]
    exact RepC.ov τ (fun ⟨q,o⟩=>by rw [mem_ovSub]; rfl) h
  | .st fs,i :: p,x,ov,cs,d,h,hk,hg=>by
    simp only [RepC] at h
    simp only [okP] at hk
    simp only [Ghost.getP] at hg
    simp only [offP]
    have:=RepF.getP fs 0 i p h hk hg
    simpa only [Nat.zero_add] using this
  | .arr n e,i :: p,x,ov,cs,d,h,hk,hg=>by
    simp only [RepC] at h
    simp only [okP] at hk
    simp only [Ghost.getP] at hg
    simp only [offP]
    have h1:=RepC.getP e p (h.2.2 i hk.1) hk.2 hg
    have h2:=offP_le e p _ d hk.2 hg
    rw [show (List.drop (i * tsize e) cs).take (tsize e)=cut cs (i * tsize e) (tsize e) from rfl,cut_cut _ _ _ _ _ h2] at h1
    exact RepC.ov d.τ (ovSub_ovSub [i] p ov) h1
  | .bool,_ :: _,_,_,_,_,_,hk,_=>by simp [okP] at hk
  | .int _,_ :: _,_,_,_,_,_,hk,_=>by simp [okP] at hk
  | .str,_ :: _,_,_,_,_,_,hk,_=>by simp [okP] at hk
  | .sl _,_ :: _,_,_,_,_,_,hk,_=>by simp [okP] at hk
theorem RepF.getP {A:Nat→Prop} {ρ:Refs} {w:World}:(fs:List Ty)→(j i:Nat)→(p:Path)→{x:denL fs}→{ov:Ov}→{cs:List Value}→{d:Dyn}→RepF A ρ w fs j x ov cs→okF fs i p →
    (match getF fs i x with | some d=>Ghost.getP p d.τ d.x | none=>none)=some d→RepC A ρ w d.τ d.x (ovSub ((j+i) :: p) ov) (cut cs (offF fs i p) (tsize d.τ))
  | [],_,_,_,_,_,_,_,_,hk,_=>by simp [okF] at hk
  | t :: r,j,0,p,x,ov,cs,d,h,hk,hg=>by
    simp only [RepF] at h
    simp only [okF] at hk
    simp only [getF] at hg
    simp only [offF]
    have h1:=RepC.getP t p h.1 hk hg
    have h2:=offP_le t p _ d hk hg
    rw [← cut_zero,cut_cut _ _ _ _ _ h2,Nat.zero_add] at h1
    exact RepC.ov d.τ (ovSub_ovSub [j] p ov) h1
  | t :: r,j,n+1,p,x,ov,cs,d,h,hk,hg=>by
    simp only [RepF] at h
    simp only [okF] at hk
    simp only [getF] at hg
    simp only [offF]
    have h1:=RepF.getP r (j+1) n p h.2 hk hg
    have:cut (List.drop (tsize t) cs) (offF r n p) (tsize d.τ)=cut cs (tsize t+offF r n p) (tsize d.τ):=by
      unfold cut; rw [List.drop_drop]
    rw [this] at h1
    rw [show j+(n+1)=j+1+n by omega]
    exact h1
end
end Go.Proofs.YtjobjooccgledaaDoor.Ghost
namespace Go.Proofs.YtjobjooccgledaaDoor.Ghost
open Go
def splice (cs:List Value) (o:Nat) (ds:List Value):List Value:=cs.take o ++ ds ++ cs.drop (o+ds.length)
theorem length_splice {cs:List Value} {o:Nat} {ds:List Value} (h:o+ds.length≤cs.length):(splice cs o ds).length=cs.length:=by
  simp only [splice,List.length_append,List.length_take,List.length_drop]; omega
theorem getElem?_splice {cs:List Value} {o:Nat} {ds:List Value} (h:o+ds.length≤cs.length) (k:Nat) :
    (splice cs o ds)[k]?=if k<o then cs[k]? else if k<o+ds.length then ds[k - o]? else cs[k]?:=by
  simp only [splice,List.append_assoc]
  by_cases h1:k<o
  · rw [if_pos h1,List.getElem?_append_left (by simp; omega),List.getElem?_take_of_lt h1]
  · rw [if_neg h1,List.getElem?_append_right (by simp; omega)]
    have:(List.take o cs).length=o:=by simp; omega
    rw [this]
    by_cases h2:k<o+ds.length
    · rw [if_pos h2,List.getElem?_append_left (by omega)]
    · rw [if_neg h2,List.getElem?_append_right (by omega),List.getElem?_drop]
      congr 1; omega
theorem getElem?_cut {cs:List Value} {o n:Nat} (k:Nat):(cut cs o n)[k]?=if k<n then cs[o+k]? else none:=by
  unfold cut
  by_cases h:k<n
  · rw [if_pos h,List.getElem?_take_of_lt h,List.getElem?_drop]
  · rw [if_neg h,List.getElem?_eq_none]; simp; omega
theorem length_cut {cs:List Value} {o n:Nat} (h:o+n≤cs.length):(cut cs o n).length=n:=by
  unfold cut; simp only [List.length_take,List.length_drop]; omega
theorem cut_splice_in {cs:List Value} {o n o':Nat} {ds:List Value} (h:o+n≤cs.length) (h':o'+ds.length≤n) :
    cut (splice cs (o+o') ds) o n=splice (cut cs o n) o' ds:=by
  refine List.ext_getElem? fun k => ?_
  have hl:(cut cs o n).length=n:=length_cut h
  rw [getElem?_cut,getElem?_splice (by omega),getElem?_splice (by omega),getElem?_cut]
  by_cases h1:k<n
  · simp only [h1,if_true]
    by_cases h2:k<o'
    · rw [if_pos (by omega),if_pos h2]
    · rw [if_neg (by omega),if_neg h2]
      by_cases h3:k<o'+ds.length
      · rw [if_pos (by omega),if_pos h3]; congr 1; omega
      · rw [if_neg (by omega),if_neg h3]
  · simp only [h1,if_false]
    rw [if_neg (by omega),if_neg (by omega)]
theorem cut_splice_out {cs:List Value} {o n o':Nat} {ds:List Value} (h:o'+ds.length≤cs.length) (h':o+n≤o'∨o'+ds.length≤o) :
    cut (splice cs o' ds) o n=cut cs o n:=by
  refine List.ext_getElem? fun k => ?_
  rw [getElem?_cut,getElem?_cut,getElem?_splice h]
  by_cases h1:k<n
  · simp only [h1,if_true]
    rcases h' with h' | h'
    · rw [if_pos (by omega)]
    · rw [if_neg (by omega),if_neg (by omega)]
  · simp only [h1,if_false]
theorem drop_eq_cut (cs:List Value) (o:Nat):cs.drop o=cut cs o (cs.length - o):=by
  unfold cut; rw [List.take_of_length_le]; simp
def NewOv (p:Path) (ov ov' ov'':Ov):Prop:=∀ e,e∈ov''↔(e∈ov∧strip p e.1=none)∨(∃ q,strip p e.1=some q∧(q,e.2)∈ov')
theorem NewOv.nil {ov ov' ov'':Ov} (h:NewOv [] ov ov' ov''):∀ e,e∈ov'↔e∈ov'':=fun ⟨q,o⟩=>by
  rw [h (q,o)]; simp [strip]
theorem NewOv.same {i:Nat} {p:Path} {ov ov' ov'':Ov} (h:NewOv (i :: p) ov ov' ov''):NewOv p (ovSub [i] ov) ov' (ovSub [i] ov''):=fun ⟨q,o⟩=>by
  rw [mem_ovSub,mem_ovSub,h ([i] ++ q,o)]; simp [strip]
theorem NewOv.other {i j:Nat} {p:Path} {ov ov' ov'':Ov} (h:NewOv (i :: p) ov ov' ov'') (hij:j≠i):∀ e,e∈ovSub [j] ov↔e∈ovSub [j] ov'':=fun ⟨q,o⟩=>by
  have:Nat.beq i j=false:=by
    cases hb:Nat.beq i j with
    | false=>rfl
    | true=>exact absurd (Nat.eq_of_beq_eq_true hb).symm hij
  rw [mem_ovSub,mem_ovSub,h ([j] ++ q,o)]; simp [strip,this]
theorem mem_ovIns {e x:Path×Option Nat}:{ov:Ov}→(x∈ovIns e ov↔x=e∨x∈ov)
  | []=>by simp [ovIns]
  | y :: r=>by
    simp only [ovIns]
    split
    · simp
    · simp only [List.mem_cons,mem_ovIns (ov:=r)]
      constructor
      · rintro (h | h | h) <;> simp [h]
      · rintro (h | h | h) <;> simp [h]
theorem mem_ovMerge {x:Path×Option Nat}:{a b:Ov}→(x∈ovMerge a b↔x∈a∨x∈b)
  | [],_=>by simp [ovMerge]
  | e :: r,b=>by
    simp only [ovMerge,mem_ovMerge (a:=r),mem_ovIns,List.mem_cons]
    constructor
    · rintro (h | h | h) <;> simp [h]
    · rintro ((h | h) | h) <;> simp [h]
theorem mem_ovPre {p:Path} {e:Path×Option Nat}:{ov:Ov}→(e∈ovPre p ov↔∃ q,e.1=p ++ q∧(q,e.2)∈ov)
  | []=>by simp [ovPre]
  | (q',o') :: r=>by
    obtain ⟨q,o⟩:=e
    simp only [ovPre,List.mem_cons,mem_ovPre (ov:=r),Prod.mk.injEq]
    constructor
    · rintro (⟨rfl,rfl⟩ | ⟨q'',h1,h2⟩)
      · exact ⟨q',rfl,.inl ⟨rfl,rfl⟩⟩
      · exact ⟨q'',h1,.inr h2⟩
    · rintro ⟨q'',h1,⟨rfl,rfl⟩ | h2⟩
      · exact .inl ⟨h1,rfl⟩
      · exact .inr ⟨q'',h1,h2⟩
theorem mem_ovDrop {p:Path} {e:Path×Option Nat}:{ov:Ov}→(e∈ovDrop p ov↔e∈ov∧strip p e.1=none)
  | []=>by simp [ovDrop]
  | (q',o') :: r=>by
    obtain ⟨q,o⟩:=e
    simp only [ovDrop]
    cases hs:strip p q' with
    | none =>
      simp only [List.mem_cons,mem_ovDrop (ov:=r),Prod.mk.injEq]
      constructor
      · rintro (⟨rfl,rfl⟩ | h)
        · exact ⟨.inl ⟨rfl,rfl⟩,hs⟩
        · exact ⟨.inr h.1,h.2⟩
      · rintro ⟨⟨rfl,rfl⟩ | h,h'⟩
        · exact .inl ⟨rfl,rfl⟩
        · exact .inr ⟨h,h'⟩
    | some q'' =>
      simp only [List.mem_cons,mem_ovDrop (ov:=r),Prod.mk.injEq]
      constructor
      · rintro ⟨h,h'⟩; exact ⟨.inr h,h'⟩
      · rintro ⟨⟨rfl,rfl⟩ | h,h'⟩
        · rw [hs] at h'; cases h'
        · exact ⟨h,h'⟩
theorem strip_iff {p q r:Path}:strip p q=some r↔q=p ++ r:=by
  induction p generalizing q r with
  | nil=>simp [strip]
  | cons i p ih =>
    cases q with
    | nil=>simp [strip]
    | cons j q =>
      simp only [strip]
      cases hb:Nat.beq i j with
      | true =>
        have:=Nat.eq_of_beq_eq_true hb
        subst this
        simp [ih]
      | false =>
        have:i≠j:=fun e=>by subst e; simp [Nat.beq_refl] at hb
        simp [Ne.symm this]
theorem NewOv.merge (p:Path) (ov ov':Ov):NewOv p ov ov' (ovMerge (ovPre p ov') (ovDrop p ov)):=fun e=>by
  rw [mem_ovMerge,mem_ovPre,mem_ovDrop]
  constructor
  · rintro (⟨q,h1,h2⟩ | h)
    · exact .inr ⟨q,strip_iff.2 h1,h2⟩
    · exact .inl h
  · rintro (h | ⟨q,h1,h2⟩)
    · exact .inr h
    · exact .inl ⟨q,strip_iff.1 h1,h2⟩
theorem castT_spec {a b:Ty} {x:den a} {y:den b} (h:castT a b x=some y):(⟨a,x⟩:Dyn)=⟨b,y⟩:=by
  unfold castT at h
  split at h
  · rename_i e _
    subst e
    simp at h
    subst h; rfl
  · cases h
mutual
theorem setP_size:(τ:Ty)→(p:Path)→(x x':den τ)→(d:Dyn)→okP τ p→setP τ p x d=some x'→offP τ p+tsize d.τ≤tsize τ
  | τ,[],x,x',d,_,h=>by
    have hc:castT d.τ τ d.x=some x':=by cases τ <;> simpa only [setP] using h
    have:=castT_spec hc
    obtain ⟨σ,y⟩:=d
    cases this
    show offP σ []+tsize σ≤tsize σ
    cases σ <;> simp [offP]
  | .st fs,i :: p,x,x',d,hk,h=>by
    simp only [offP,tsize]
    simp only [okP] at hk
    simp only [setP] at h
    exact setF_size fs i p x x' d hk h
  | .arr n e,i :: p,x,x',d,hk,h=>by
    simp only [offP,tsize]
    simp only [okP] at hk
    simp only [setP] at h
    cases hs:setP e p (List.getD x i (dft e)) d with
    | none=>rw [hs] at h; cases h
    | some y =>
      have h1:=setP_size e p _ _ d hk.2 hs
      have:(i+1) * tsize e≤n * tsize e:=Nat.mul_le_mul_right _ hk.1
      rw [Nat.add_mul,Nat.one_mul] at this
      omega
  | .bool,_ :: _,_,_,_,hk,_=>by simp [okP] at hk
  | .int _,_ :: _,_,_,_,hk,_=>by simp [okP] at hk
  | .str,_ :: _,_,_,_,hk,_=>by simp [okP] at hk
  | .sl _,_ :: _,_,_,_,hk,_=>by simp [okP] at hk
theorem setF_size:(fs:List Ty)→(i:Nat)→(p:Path)→(x x':denL fs)→(d:Dyn)→okF fs i p →
    setF fs i p x d=some x'→offF fs i p+tsize d.τ≤tsizeL fs
  | [],_,_,_,_,_,hk,_=>by simp [okF] at hk
  | t :: r,0,p,x,x',d,hk,h=>by
    simp only [okF] at hk
    simp only [setF] at h
    cases hs:setP t p x.1 d with
    | none=>rw [hs] at h; cases h
    | some y =>
      have:=setP_size t p x.1 y d hk hs
      simp only [offF,tsizeL]
      omega
  | t :: r,n+1,p,x,x',d,hk,h=>by
    simp only [okF] at hk
    simp only [setF] at h
    cases hs:setF r n p x.2 d with
    | none=>rw [hs] at h; cases h
    | some y =>
      have:=setF_size r n p x.2 y d hk hs
      simp only [offF,tsizeL]
      omega
end
mutual
theorem RepC.setP {A:Nat→Prop} {ρ:Refs} {w:World}:(τ:Ty)→(p:Path)→{x x':den τ}→{ov ov' ov'':Ov}→{cs ds:List Value}→{d:Dyn} →
    RepC A ρ w τ x ov cs→okP τ p→setP τ p x d=some x'→RepC A ρ w d.τ d.x ov' ds→NewOv p ov ov' ov''→RepC A ρ w τ x' ov'' (splice cs (offP τ p) ds)
  | τ,[],x,x',ov,ov',ov'',cs,ds,d,h,_,hs,hd,hv=>by
    have hc:castT d.τ τ d.x=some x':=by cases τ <;> simpa only [Ghost.setP] using hs
    have:=castT_spec hc
    obtain ⟨σ,y⟩:=d
    cases this
    have h0:offP σ []=0:=by cases σ <;> rfl
    have h1:=RepC.length σ h
    have h2:ds.length=tsize σ:=RepC.length σ hd
    have:splice cs (offP σ []) ds=ds:=by
      unfold splice
      rw [h0,Nat.zero_add,List.drop_eq_nil_of_le (by omega)]; simp
    rw [this]
    exact RepC.ov σ hv.nil hd
  | .st fs,i :: p,x,x',ov,ov',ov'',cs,ds,d,h,hk,hs,hd,hv=>by
    simp only [RepC] at h ⊢
    simp only [okP] at hk
    simp only [Ghost.setP] at hs
    simp only [offP]
    exact RepF.setP fs 0 i p h hk hs hd (by rw [Nat.zero_add]; exact hv)
  | .arr n e,i :: p,x,x',ov,ov',ov'',cs,ds,d,h,hk,hs,hd,hv=>by
    simp only [RepC] at h ⊢
    simp only [okP] at hk
    simp only [Ghost.setP] at hs
    simp only [offP]
    cases hy:Ghost.setP e p (List.getD x i (dft e)) d with
    | none=>rw [hy] at hs; cases hs
    | some y =>
      rw [hy] at hs
      simp only [Option.some.injEq] at hs
      subst hs
      have h2:=RepC.length d.τ hd
      have h3:=setP_size e p _ _ d hk.2 hy
      have h4:(i+1) * tsize e≤n * tsize e:=Nat.mul_le_mul_right _ hk.1
      rw [Nat.add_mul,Nat.one_mul] at h4
      refine ⟨by simpa using h.1,by rw [length_splice (by omega)]; exact h.2.1,fun k hkn => ?_⟩
      have h4':(k+1) * tsize e≤n * tsize e:=Nat.mul_le_mul_right _ hkn
      rw [Nat.add_mul,Nat.one_mul] at h4'
      have hget:=h.2.2 k hkn
      change RepC A ρ w e _ _ (cut cs (k * tsize e) (tsize e)) at hget
      change RepC A ρ w e _ _ (cut _ (k * tsize e) (tsize e))
      by_cases hki:k=i
      · subst hki
        have h5:=RepC.setP e p hget hk.2 hy hd hv.same
        rw [cut_splice_in (by omega) (by omega)]
        have:List.getD (List.set x k y) k (dft e)=y:=by
          have hl:k<List.length x:=by omega
          rw [List.getD_eq_getElem?_getD,List.getElem?_set_self hl]; rfl
        rw [this]; exact h5
      · have:List.getD (List.set x i y) k (dft e)=List.getD x k (dft e):=by
          rw [List.getD_eq_getElem?_getD,List.getElem?_set_ne (Ne.symm hki),← List.getD_eq_getElem?_getD]
        rw [this,cut_splice_out (by omega) ?_]
        · exact RepC.ov e (hv.other hki) hget
        · rcases Nat.lt_or_gt_of_ne hki with hlt | hgt
          · left
            have:(k+1) * tsize e≤i * tsize e:=Nat.mul_le_mul_right _ hlt
            rw [Nat.add_mul,Nat.one_mul] at this
            omega
          · right
            have:(i+1) * tsize e≤k * tsize e:=Nat.mul_le_mul_right _ hgt
            rw [Nat.add_mul,Nat.one_mul] at this
            omega
  | .bool,_ :: _,_,_,_,_,_,_,_,_,_,hk,_,_,_=>by simp [okP] at hk
  | .int _,_ :: _,_,_,_,_,_,_,_,_,_,hk,_,_,_=>by simp [okP] at hk
  | .str,_ :: _,_,_,_,_,_,_,_,_,_,hk,_,_,_=>by simp [okP] at hk
  | .sl _,_ :: _,_,_,_,_,_,_,_,_,_,hk,_,_,_=>by simp [okP] at hk
theorem RepF.setP {A:Nat→Prop} {ρ:Refs} {w:World}:(fs:List Ty)→(j i:Nat)→(p:Path)→{x x':denL fs}→{ov ov' ov'':Ov}→{cs ds:List Value}→{d:Dyn} →
    RepF A ρ w fs j x ov cs→okF fs i p→setF fs i p x d=some x'→RepC A ρ w d.τ d.x ov' ds→NewOv ((j+i) :: p) ov ov' ov''→RepF A ρ w fs j x' ov'' (splice cs (offF fs i p) ds)
  | [],_,_,_,_,_,_,_,_,_,_,_,_,hk,_,_,_=>by simp [okF] at hk
  | t :: r,j,0,p,x,x',ov,ov',ov'',cs,ds,d,h,hk,hs,hd,hv=>by
    have hlen:=RepF.length (t :: r) h
    simp only [tsizeL] at hlen
    simp only [RepF] at h ⊢
    simp only [okF] at hk
    simp only [setF] at hs
    simp only [offF]
    cases hy:Ghost.setP t p x.1 d with
    | none=>rw [hy] at hs; cases hs
    | some y =>
      rw [hy] at hs
      simp only [Option.some.injEq] at hs
      subst hs
      have h2:=RepC.length d.τ hd
      have h3:=setP_size t p _ _ d hk hy
      have h5:=RepC.setP t p h.1 hk hy hd hv.same
      refine ⟨?_,?_⟩
      · have:=cut_splice_in (cs:=cs) (o:=0) (n:=tsize t) (o':=offP t p) (ds:=ds) (by omega) (by omega)
        rw [Nat.zero_add] at this
        rw [← cut_zero,this]; exact h5
      · have:(splice cs (offP t p) ds).drop (tsize t)=cs.drop (tsize t):=by
          rw [drop_eq_cut,length_splice (by omega),cut_splice_out (by omega) (by omega),← drop_eq_cut]
        rw [this]
        exact RepF.skip r (j+1) (i:=j) (by omega) h.2 hv
  | t :: r,j,n+1,p,x,x',ov,ov',ov'',cs,ds,d,h,hk,hs,hd,hv=>by
    have hlen:=RepF.length (t :: r) h
    simp only [tsizeL] at hlen
    simp only [RepF] at h ⊢
    simp only [okF] at hk
    simp only [setF] at hs
    simp only [offF]
    cases hy:Ghost.setF r n p x.2 d with
    | none=>rw [hy] at hs; cases hs
    | some y =>
      rw [hy] at hs
      simp only [Option.some.injEq] at hs
      subst hs
      have h2:=RepC.length d.τ hd
      have h3:=setF_size r n p _ _ d hk hy
      have h5:=RepF.setP r (j+1) n p h.2 hk hy hd (by rw [show j+1+n=j+(n+1) by omega]; exact hv)
      refine ⟨?_,?_⟩
      · rw [← cut_zero,cut_splice_out (by omega) (by omega),cut_zero]
        exact RepC.ov t (hv.other (by omega)) h.1
      · have:(splice cs (tsize t+offF r n p) ds).drop (tsize t)=splice (cs.drop (tsize t)) (offF r n p) ds:=by
          rw [drop_eq_cut,length_splice (by omega),cut_splice_in (by omega) (by omega),← drop_eq_cut]
        rw [this]; exact h5
theorem RepF.skip {A:Nat→Prop} {ρ:Refs} {w:World}:(fs:List Ty)→(j:Nat)→{i:Nat}→{p:Path}→{x:denL fs}→{ov ov' ov'':Ov}→{cs:List Value}→i<j →
    RepF A ρ w fs j x ov cs→NewOv (i :: p) ov ov' ov''→RepF A ρ w fs j x ov'' cs
  | [],_,_,_,_,_,_,_,_,_,h,_=>by simpa only [RepF] using h
  | t :: r,j,i,p,x,ov,ov',ov'',cs,hij,h,hv=>by
    simp only [RepF] at h ⊢
    exact ⟨RepC.ov t (hv.other (by omega)) h.1,RepF.skip r (j+1) (by omega) h.2 hv⟩
end
end Go.Proofs.YtjobjooccgledaaDoor.Ghost
namespace Go.Proofs.YtjobjooccgledaaDoor.Ghost
open Go
def isAg:Ty→Bool
  | .st _=>true
  | .arr _ _=>true
  | _=>false
def mkV (τ:Ty) (cs:List Value):Value:=match isAg τ with
  | true=>.agg cs.toArray
  | false=>cs.headD undef
theorem mkV_cells {A:Nat→Prop} {ρ:Refs} {w:World} {τ:Ty} {x:den τ} {ov:Ov} {cs:List Value} (h:RepC A ρ w τ x ov cs):(mkV τ cs).cells.toList=cs:=by
  cases τ with
  | bool=>simp only [RepC] at h; subst h; rfl
  | int k=>simp only [RepC] at h; subst h; rfl
  | str=>simp only [RepC] at h; subst h; rfl
  | sl e=>simp only [RepC] at h; obtain ⟨_,_,_,rfl,_⟩:=h; rfl
  | arr n e=>rfl
  | st fs=>rfl
def cellsL:List Value→List Value
  | []=>[]
  | v :: r=>v.cells.toList ++ cellsL r
def szOk:List SV→List Value→Prop
  | u :: r,v :: s=>v.cells.size=svSize u∧(∀ c∈v.cells.toList,c.oneCell'=true)∧szOk r s
  | _,_=>True
mutual
def RepV (A:Nat→Prop) (ρ:Refs) (w:World):SV→Value→Prop
  | .dat τ x ov,v=>∃ cs,RepC A ρ w τ x ov cs∧v=mkV τ cs
  | .ptr g p,v=>∃ s,ρ g=some s∧s.ok p∧v=(match s.mp with | true=>.map (some s.b) | false=>.pointer (some ⟨s.b,s.off p,none⟩))
  | .ref τ x,v=>∃ b o cs,v=.pointer (some ⟨b,o,none⟩)∧A b∧w.rangeAt b o cs∧RepC A ρ w τ x [] cs
  | .refv u,v=>∃ b o u',v=.pointer (some ⟨b,o,none⟩)∧A b∧w.rangeAt b o (Value.cells u').toList∧RepV A ρ w u u'
  | .selfc f us,v=>∃ b o,v=.pointer (some ⟨b,o,none⟩)∧A b∧∃ vs:List Value,w.rangeAt b o [.func (.func f) #[] (v :: vs).toArray]∧RepVs A ρ w us vs
  | .glo k,v=>v=.pointer (some ⟨k,0,none⟩)
  | .elp g i p,v=>∃ s,ρ g=some s∧s.mp=false∧i<s.len∧s.ok p∧v=.pointer (some ⟨s.b,i * s.es+s.off p,none⟩)
  | .clo f caps,v=>∃ vs:List Value,v=.func (.func f) #[] vs.toArray∧RepVs A ρ w caps vs
  | .tup us,v=>∃ vs:List Value,v=.tuple vs.toArray∧RepVs A ρ w us vs
  | .slv us,v=>∃ a n c,v=.slice a n c∧n=us.length∧∃ vs,RepVs A ρ w us vs∧szOk us vs∧(∃ z,∀ u,u∈us→svSize u=z)∧(0<n→∃ b o,a=some ⟨b,o,none⟩∧A b∧w.rangeAt b o (cellsL vs))
  | .fmap ks us,v=>∃ b es c,v=.map (some b)∧A b∧w.heap[b]?=some (.map es c)∧ks.Nodup∧∃ l:List MapEntry,l.Perm es.toList∧l.map (·.key)=ks.map (Value.int .i64)∧RepVs A ρ w us (l.map (·.val))
  | .agv us,v=>∃ vs,v=.agg (cellsL vs).toArray∧RepVs A ρ w us vs∧szOk us vs
  | .nilfn,v=>v=.nilFunc
  | .und,v=>v=undef
  | .junk,_=>True
def RepVs (A:Nat→Prop) (ρ:Refs) (w:World):List SV→List Value→Prop
  | [],vs=>vs=[]
  | u :: r,vs=>∃ v vs',vs=v :: vs'∧RepV A ρ w u v∧RepVs A ρ w r vs'
end
theorem rangeAt_congr {w w':World} {b o:Nat} {cs:List Value} (h:w'.heap[b]?=w.heap[b]?) (hr:w.rangeAt b o cs):w'.rangeAt b o cs:=fun j v hv=>by
  have:=hr j v hv
  unfold World.cell? at this ⊢
  simp only [h]
  exact this
theorem there_congr {w w':World} {b o n:Nat} (h:w'.heap[b]?=w.heap[b]?) (hr:w.there b o n):w'.there b o n:=fun j hj=>by
  have:=hr j hj
  unfold World.cell? World.frozen? at this ⊢
  simp only [h]
  exact this
mutual
theorem RepV.mono {A A':Nat→Prop} {ρ ρ':Refs} {w w':World} (hA:∀ b,A b→A' b) (hρ:∀ g s,ρ g=some s→ρ' g=some s)
    (hw:∀ b,A b→w'.heap[b]?=w.heap[b]?):(u:SV)→{v:Value}→RepV A ρ w u v→RepV A' ρ' w' u v
  | .dat τ x ov,_,h=>by
    simp only [RepV] at h ⊢
    obtain ⟨cs,h1,h2⟩:=h
    exact ⟨cs,RepC.mono hA hρ hw τ h1,h2⟩
  | .ptr g p,_,h=>by
    simp only [RepV] at h ⊢
    obtain ⟨s,h1,h2⟩:=h
    exact ⟨s,hρ _ _ h1,h2⟩
  | .ref τ x,_,h=>by
    simp only [RepV] at h ⊢
    obtain ⟨b,o,cs,h1,h2,h3,h4⟩:=h
    exact ⟨b,o,cs,h1,hA b h2,rangeAt_congr (hw b h2) h3,RepC.mono hA hρ hw τ h4⟩
  | .refv u,_,h=>by
    simp only [RepV] at h ⊢
    obtain ⟨b,o,u',h1,h2,h3,h4⟩:=h
    exact ⟨b,o,u',h1,hA b h2,rangeAt_congr (hw b h2) h3,RepV.mono hA hρ hw u h4⟩
  | .selfc f us,_,h=>by
    simp only [RepV] at h ⊢
    obtain ⟨b,o,h1,h2,vs,h3,h4⟩:=h
    exact ⟨b,o,h1,hA b h2,vs,rangeAt_congr (hw b h2) h3,RepVs.mono hA hρ hw us h4⟩
  | .elp g i p,_,h=>by
    simp only [RepV] at h ⊢
    obtain ⟨s,h1,h2⟩:=h
    exact ⟨s,hρ _ _ h1,h2⟩
  | .clo f caps,_,h=>by
    simp only [RepV] at h ⊢
    obtain ⟨vs,h1,h2⟩:=h
    exact ⟨vs,h1,RepVs.mono hA hρ hw caps h2⟩
  | .tup us,_,h=>by
    simp only [RepV] at h ⊢
    obtain ⟨vs,h1,h2⟩:=h
    exact ⟨vs,h1,RepVs.mono hA hρ hw us h2⟩
  | .slv us,_,h=>by
    simp only [RepV] at h ⊢
    obtain ⟨a,n,c,h1,h2,vs,h3,h5,h6,h4⟩:=h
    refine ⟨a,n,c,h1,h2,vs,RepVs.mono hA hρ hw us h3,h5,h6,fun hn => ?_⟩
    obtain ⟨b,o,k1,k2,k3⟩:=h4 hn
    exact ⟨b,o,k1,hA b k2,rangeAt_congr (hw b k2) k3⟩
  | .fmap ks us,_,h=>by
    simp only [RepV] at h ⊢
    obtain ⟨b,es,c,h1,h2,h3,h4,l,h5,h6,h7⟩:=h
    exact ⟨b,es,c,h1,hA b h2,by rw [hw b h2]; exact h3,h4,l,h5,h6,RepVs.mono hA hρ hw us h7⟩
  | .agv us,_,h=>by
    simp only [RepV] at h ⊢
    obtain ⟨vs,h1,h2,h3⟩:=h
    exact ⟨vs,h1,RepVs.mono hA hρ hw us h2,h3⟩
  | .nilfn,_,h=>by simpa only [RepV] using h
  | .glo _,_,h=>by simpa only [RepV] using h
  | .und,_,h=>by simpa only [RepV] using h
  | .junk,_,_=>by simp only [RepV]
theorem RepVs.mono {A A':Nat→Prop} {ρ ρ':Refs} {w w':World} (hA:∀ b,A b→A' b) (hρ:∀ g s,ρ g=some s→ρ' g=some s)
    (hw:∀ b,A b→w'.heap[b]?=w.heap[b]?):(us:List SV)→{vs:List Value}→RepVs A ρ w us vs→RepVs A' ρ' w' us vs
  | [],_,h=>by simpa only [RepVs] using h
  | u :: r,_,h=>by
    simp only [RepVs] at h ⊢
    obtain ⟨v,vs',h1,h2,h3⟩:=h
    exact ⟨v,vs',h1,RepV.mono hA hρ hw u h2,RepVs.mono hA hρ hw r h3⟩
end
mutual
theorem svSize_mapI (f:Nat→Nat):(u:SV)→svSize (mapI f u)=svSize u
  | .dat _ _ _=>rfl
  | .ptr _ _=>rfl
  | .ref _ _=>rfl
  | .refv _=>rfl
  | .selfc _ _=>rfl
  | .glo _=>rfl
  | .elp _ _ _=>rfl
  | .clo _ _=>rfl
  | .tup _=>rfl
  | .slv _=>rfl
  | .fmap _ _=>rfl
  | .agv us=>by simp only [mapI,svSize]; exact svSizeL_mapI f us
  | .nilfn=>rfl
  | .und=>rfl
  | .junk=>rfl
theorem svSizeL_mapI (f:Nat→Nat):(us:List SV)→svSizeL (mapIL f us)=svSizeL us
  | []=>rfl
  | u :: r=>by simp only [mapIL,svSizeL,svSize_mapI f u,svSizeL_mapI f r]
end
theorem szOk_mapI (f:Nat→Nat):(us:List SV)→(vs:List Value)→szOk us vs→szOk (mapIL f us) vs
  | [],_,_=>by simp [mapIL,szOk]
  | _ :: _,[],_=>by simp [mapIL,szOk]
  | u :: r,v :: s,h=>by
    simp only [szOk,mapIL] at h ⊢
    exact ⟨by rw [svSize_mapI]; exact h.1,h.2.1,szOk_mapI f r s h.2.2⟩
theorem mem_mapIL {f:Nat→Nat} {u:SV}:{us:List SV}→u∈mapIL f us→∃ u',u'∈us∧u=mapI f u'
  | v :: r,h=>by
    simp only [mapIL,List.mem_cons] at h
    rcases h with rfl | h
    · exact ⟨v,by simp,rfl⟩
    · obtain ⟨u',h1,h2⟩:=mem_mapIL h
      exact ⟨u',by simp [h1],h2⟩
theorem mem_mapOv {f:Nat→Nat} {q:Path} {g:Nat}:{ov:Ov}→((q,some g)∈mapOv f ov↔∃ g',(q,some g')∈ov∧g=f g')
  | []=>by simp [mapOv]
  | (q',some g') :: r=>by
    simp only [mapOv,List.mem_cons,mem_mapOv (ov:=r),Prod.mk.injEq,Option.some.injEq]
    constructor
    · rintro (⟨rfl,rfl⟩ | ⟨g'',h1,h2⟩)
      · exact ⟨g',.inl ⟨rfl,rfl⟩,rfl⟩
      · exact ⟨g'',.inr h1,h2⟩
    · rintro ⟨g'',⟨rfl,rfl⟩ | h1,h2⟩
      · exact .inl ⟨rfl,h2⟩
      · exact .inr ⟨g'',h1,h2⟩
  | (q',none) :: r=>by simp [mapOv,mem_mapOv (ov:=r)]
theorem mem_mapOv_any {f:Nat→Nat} {q:Path}:{ov:Ov}→((∃ o,(q,o)∈mapOv f ov)↔∃ o,(q,o)∈ov)
  | []=>by simp [mapOv]
  | (q',some g') :: r=>by
    have:=mem_mapOv_any (f:=f) (q:=q) (ov:=r)
    simp only [mapOv,List.mem_cons,Prod.mk.injEq,exists_or,this]
    constructor
    · rintro (⟨o,rfl,_⟩ | h)
      · exact .inl ⟨some g',rfl,rfl⟩
      · exact .inr h
    · rintro (⟨o,rfl,_⟩ | h)
      · exact .inl ⟨some (f g'),rfl,rfl⟩
      · exact .inr h
  | (q',none) :: r=>by
    have:=mem_mapOv_any (f:=f) (q:=q) (ov:=r)
    simp only [mapOv,List.mem_cons,Prod.mk.injEq,exists_or,this]
theorem mapOv_ovSub (f:Nat→Nat) (p:Path):(ov:Ov)→ovSub p (mapOv f ov)=mapOv f (ovSub p ov)
  | []=>rfl
  | (q,some g) :: r=>by
    simp only [mapOv,ovSub]
    cases strip p q <;> simp [mapOv,mapOv_ovSub f p r]
  | (q,none) :: r=>by
    simp only [mapOv,ovSub]
    cases strip p q <;> simp [mapOv,mapOv_ovSub f p r]
theorem ovAll_mem {p:Nat→Bool} {q:Path} {g:Nat}:{ov:Ov}→ovAll p ov=true→(q,some g)∈ov→p g=true
  | (q',some g') :: r,h,hm=>by
    simp only [ovAll,Bool.and_eq_true] at h
    simp only [List.mem_cons,Prod.mk.injEq,Option.some.injEq] at hm
    rcases hm with ⟨rfl,rfl⟩ | hm
    · exact h.1
    · exact ovAll_mem h.2 hm
  | (q',none) :: r,h,hm=>by
    simp only [ovAll] at h
    simp only [List.mem_cons,Prod.mk.injEq,reduceCtorEq,and_false,false_or] at hm
    exact ovAll_mem h hm
theorem ovAll_sub {p:Nat→Bool} {q:Path}:{ov:Ov}→ovAll p ov=true→ovAll p (ovSub q ov)=true
  | [],_=>rfl
  | (q',some g') :: r,h=>by
    simp only [ovAll,Bool.and_eq_true] at h
    simp only [ovSub]
    cases strip q q'
    · exact ovAll_sub h.2
    · simp only [ovAll,Bool.and_eq_true]; exact ⟨h.1,ovAll_sub h.2⟩
  | (q',none) :: r,h=>by
    simp only [ovAll] at h
    simp only [ovSub]
    cases strip q q'
    · exact ovAll_sub h
    · simp only [ovAll]; exact ovAll_sub h
section names
variable {A:Nat→Prop} {ρ ρ':Refs} {w:World} {p:Nat→Bool} {f:Nat→Nat} 
mutual
theorem RepC.names (hf:∀ g s,p g=true→ρ g=some s→ρ' (f g)=some s):(τ:Ty)→{x:den τ}→{ov:Ov}→{cs:List Value}→ovAll p ov=true→RepC A ρ w τ x ov cs→RepC A ρ' w τ x (mapOv f ov) cs
  | .bool,_,_,_,_,h=>by simpa only [RepC] using h
  | .int _,_,_,_,_,h=>by simpa only [RepC] using h
  | .str,_,_,_,_,h=>by simpa only [RepC] using h
  | .sl e,_,ov,_,hp,h=>by
    simp only [RepC] at h ⊢
    obtain ⟨a,n,c,h1,h2,h3⟩:=h
    refine ⟨a,n,c,h1,fun g hg => ?_,fun hn => ?_⟩
    · obtain ⟨g',k1,rfl⟩:=mem_mapOv.1 hg
      obtain ⟨s,ad,m1,m2⟩:=h2 g' k1
      exact ⟨s,ad,hf _ _ (ovAll_mem hp k1) m1,m2⟩
    · have hn':∀ o,([],o) ∉ ov:=fun o ho=>by
        obtain ⟨o',ho'⟩:=mem_mapOv_any (f:=f).2 ⟨o,ho⟩
        exact hn o' ho'
      refine ⟨(h3 hn').1,(h3 hn').2.1,fun hpos => ?_⟩
      obtain ⟨b,o,ds,k1,k2,k3,k4,k5⟩:=(h3 hn').2.2 hpos
      exact ⟨b,o,ds,k1,k2,k3,k4,fun i hi=>by simpa only [mapOv] using RepC.names hf e (ov:=[]) rfl (k5 i hi)⟩
  | .arr n e,_,ov,_,hp,h=>by
    simp only [RepC] at h ⊢
    exact ⟨h.1,h.2.1,fun i hi=>by rw [mapOv_ovSub]; exact RepC.names hf e (ovAll_sub hp) (h.2.2 i hi)⟩
  | .st fs,_,_,_,hp,h=>by simp only [RepC] at h ⊢; exact RepF.names hf fs hp h
theorem RepF.names (hf:∀ g s,p g=true→ρ g=some s→ρ' (f g)=some s):(fs:List Ty)→{j:Nat}→{x:denL fs}→{ov:Ov}→{cs:List Value}→ovAll p ov=true→RepF A ρ w fs j x ov cs→RepF A ρ' w fs j x (mapOv f ov) cs
  | [],_,_,_,_,_,h=>by simpa only [RepF] using h
  | t :: r,_,_,_,_,hp,h=>by
    simp only [RepF] at h ⊢
    exact ⟨by rw [mapOv_ovSub]; exact RepC.names hf t (ovAll_sub hp) h.1,RepF.names hf r hp h.2⟩
end
mutual
theorem RepV.names (hf:∀ g s,p g=true→ρ g=some s→ρ' (f g)=some s):(u:SV)→{v:Value}→allI p u=true→RepV A ρ w u v→RepV A ρ' w (mapI f u) v
  | .dat τ x ov,_,hp,h=>by
    simp only [RepV,mapI,allI] at h hp ⊢
    obtain ⟨cs,h1,h2⟩:=h
    exact ⟨cs,RepC.names hf τ hp h1,h2⟩
  | .ptr g q,_,hp,h=>by
    simp only [RepV,mapI,allI] at h hp ⊢
    obtain ⟨s,h1,h2⟩:=h
    exact ⟨s,hf _ _ hp h1,h2⟩
  | .ref τ x,_,hp,h=>by
    simp only [RepV,mapI,allI] at h hp ⊢
    obtain ⟨b,o,cs,h1,h2,h3,h4⟩:=h
    exact ⟨b,o,cs,h1,h2,h3,by simpa only [mapOv] using RepC.names hf τ (ov:=[]) rfl h4⟩
  | .refv u,_,hp,h=>by
    simp only [RepV,mapI,allI] at h hp ⊢
    obtain ⟨b,o,u',h1,h2,h3,h4⟩:=h
    exact ⟨b,o,u',h1,h2,h3,RepV.names hf u hp h4⟩
  | .selfc c us,_,hp,h=>by
    simp only [RepV,mapI,allI] at h hp ⊢
    obtain ⟨b,o,h1,h2,vs,h3,h4⟩:=h
    exact ⟨b,o,h1,h2,vs,h3,RepVs.names hf us hp h4⟩
  | .elp g i q,_,hp,h=>by
    simp only [RepV,mapI,allI] at h hp ⊢
    obtain ⟨s,h1,h2⟩:=h
    exact ⟨s,hf _ _ hp h1,h2⟩
  | .clo c caps,_,hp,h=>by
    simp only [RepV,mapI,allI] at h hp ⊢
    obtain ⟨vs,h1,h2⟩:=h
    exact ⟨vs,h1,RepVs.names hf caps hp h2⟩
  | .tup us,_,hp,h=>by
    simp only [RepV,mapI,allI] at h hp ⊢
    obtain ⟨vs,h1,h2⟩:=h
    exact ⟨vs,h1,RepVs.names hf us hp h2⟩
  | .slv us,_,hp,h=>by
    simp only [RepV,mapI,allI] at h hp ⊢
    obtain ⟨a,n,c,h1,h2,vs,h3,h5,⟨z,h6⟩,h4⟩:=h
    have:∀ l:List SV,(mapIL f l).length=l.length:=fun l=>by induction l <;> simp_all [mapIL]
    refine ⟨a,n,c,h1,by rw [this]; exact h2,vs,RepVs.names hf us hp h3,szOk_mapI f us vs h5,⟨z,fun u hu => ?_⟩,h4⟩
    obtain ⟨u',k1,rfl⟩:=mem_mapIL hu
    rw [svSize_mapI]; exact h6 u' k1
  | .fmap ks us,_,hp,h=>by
    simp only [RepV,mapI,allI] at h hp ⊢
    obtain ⟨b,es,c,h1,h2,h3,h4,l,h5,h6,h7⟩:=h
    exact ⟨b,es,c,h1,h2,h3,h4,l,h5,h6,RepVs.names hf us hp h7⟩
  | .agv us,_,hp,h=>by
    simp only [RepV,mapI,allI] at h hp ⊢
    obtain ⟨vs,h1,h2,h3⟩:=h
    exact ⟨vs,h1,RepVs.names hf us hp h2,szOk_mapI f us vs h3⟩
  | .nilfn,_,_,h=>by simpa only [RepV,mapI] using h
  | .glo _,_,_,h=>by simpa only [RepV,mapI] using h
  | .und,_,_,h=>by simpa only [RepV,mapI] using h
  | .junk,_,_,_=>by simp only [RepV,mapI]
theorem RepVs.names (hf:∀ g s,p g=true→ρ g=some s→ρ' (f g)=some s):(us:List SV)→{vs:List Value}→allIL p us=true→RepVs A ρ w us vs→RepVs A ρ' w (mapIL f us) vs
  | [],_,_,h=>by simpa only [RepVs,mapIL] using h
  | u :: r,_,hp,h=>by
    simp only [RepVs,mapIL,allIL,Bool.and_eq_true] at h hp ⊢
    obtain ⟨v,vs',h1,h2,h3⟩:=h
    exact ⟨v,vs',h1,RepV.names hf u hp.1 h2,RepVs.names hf r hp.2 h3⟩
end
end names
theorem mapOv_id:(ov:Ov)→mapOv id ov=ov
  | []=>rfl
  | (_,some _) :: r=>by simp [mapOv,mapOv_id r]
  | (_,none) :: r=>by simp [mapOv,mapOv_id r]
mutual
theorem mapI_id:(u:SV)→mapI id u=u
  | .dat _ _ ov=>by simp [mapI,mapOv_id ov]
  | .ptr _ _=>rfl
  | .ref _ _=>rfl
  | .refv u=>by simp [mapI,mapI_id u]
  | .selfc _ us=>by simp [mapI,mapIL_id us]
  | .glo _=>rfl
  | .elp _ _ _=>rfl
  | .clo _ us=>by simp [mapI,mapIL_id us]
  | .tup us=>by simp [mapI,mapIL_id us]
  | .slv us=>by simp [mapI,mapIL_id us]
  | .fmap _ us=>by simp [mapI,mapIL_id us]
  | .agv us=>by simp [mapI,mapIL_id us]
  | .nilfn=>rfl
  | .und=>rfl
  | .junk=>rfl
theorem mapIL_id:(us:List SV)→mapIL id us=us
  | []=>rfl
  | u :: r=>by simp [mapIL,mapI_id u,mapIL_id r]
end
end Go.Proofs.YtjobjooccgledaaDoor.Ghost
namespace Go.Proofs.YtjobjooccgledaaDoor.Ghost
open Go
mutual
def offV:SV→Path→Nat
  | .agv vs,i :: p=>offVL vs i p
  | _,_=>0
def offVL:List SV→Nat→Path→Nat
  | [],_,_=>0
  | v :: _,0,p=>offV v p
  | v :: r,n+1,p=>svSize v+offVL r n p
end
theorem length_cellsL:(us:List SV)→(vs:List Value)→{A:Nat→Prop}→{ρ:Refs}→{w:World}→RepVs A ρ w us vs→szOk us vs→(cellsL vs).length=svSizeL us
  | [],_,_,_,_,h,_=>by simp only [RepVs] at h; subst h; rfl
  | u :: r,_,_,_,_,h,hs=>by
    simp only [RepVs] at h
    obtain ⟨v,vs',rfl,_,h3⟩:=h
    simp only [szOk] at hs
    simp only [cellsL,List.length_append,svSizeL,Array.length_toList,hs.1,length_cellsL r vs' h3 hs.2.2]
theorem RepV.size {A:Nat→Prop} {ρ:Refs} {w:World}:{u:SV}→{v:Value}→u≠.junk→RepV A ρ w u v→v.cells.size=svSize u
  | .dat τ x ov,v,_,h=>by
    simp only [RepV] at h
    obtain ⟨cs,h1,rfl⟩:=h
    rw [← Array.length_toList,mkV_cells h1,RepC.length τ h1]; rfl
  | .ptr g p,v,_,h=>by
    simp only [RepV] at h
    obtain ⟨s,_,_,rfl⟩:=h
    cases s.mp <;> rfl
  | .ref τ x,v,_,h=>by
    simp only [RepV] at h
    obtain ⟨_,_,_,rfl,_⟩:=h; rfl
  | .refv u,v,_,h=>by
    simp only [RepV] at h
    obtain ⟨_,_,_,rfl,_⟩:=h; rfl
  | .selfc f us,v,_,h=>by
    simp only [RepV] at h
    obtain ⟨_,_,rfl,_⟩:=h; rfl
  | .glo k,v,_,h=>by
    simp only [RepV] at h
    subst h; rfl
  | .elp g i p,v,_,h=>by
    simp only [RepV] at h
    obtain ⟨_,_,_,_,_,rfl⟩:=h; rfl
  | .clo f caps,v,_,h=>by
    simp only [RepV] at h
    obtain ⟨_,rfl,_⟩:=h; rfl
  | .tup us,v,_,h=>by
    simp only [RepV] at h
    obtain ⟨_,rfl,_⟩:=h; rfl
  | .slv us,v,_,h=>by
    simp only [RepV] at h
    obtain ⟨_,_,_,rfl,_⟩:=h; rfl
  | .fmap ks us,v,_,h=>by
    simp only [RepV] at h
    obtain ⟨_,_,_,rfl,_⟩:=h; rfl
  | .agv us,v,_,h=>by
    simp only [RepV] at h
    obtain ⟨vs,rfl,h2,h3⟩:=h
    show (cellsL vs).toArray.size=_
    rw [List.size_toArray,length_cellsL us vs h2 h3]; rfl
  | .nilfn,v,_,h=>by simp only [RepV] at h; subst h; rfl
  | .und,v,_,h=>by simp only [RepV] at h; subst h; rfl
  | .junk,_,h,_=>absurd rfl h
mutual
theorem RepC.one {A:Nat→Prop} {ρ:Refs} {w:World}:(τ:Ty)→{x:den τ}→{ov:Ov}→{cs:List Value}→RepC A ρ w τ x ov cs→∀ c∈cs,c.oneCell'=true
  | .bool,_,_,_,h=>by simp only [RepC] at h; subst h; simp [Value.oneCell']
  | .int _,_,_,_,h=>by simp only [RepC] at h; subst h; simp [Value.oneCell']
  | .str,_,_,_,h=>by simp only [RepC] at h; subst h; simp [Value.oneCell']
  | .sl _,_,_,_,h=>by simp only [RepC] at h; obtain ⟨_,_,_,rfl,_⟩:=h; simp [Value.oneCell']
  | .arr n e,_,_,cs,h=>by
    simp only [RepC] at h
    intro c hc
    obtain ⟨k,hk,rfl⟩:=List.getElem_of_mem hc
    have hk':k<n * tsize e:=by rw [← h.2.1]; exact hk
    have hpos:0<tsize e:=by
      rcases Nat.eq_zero_or_pos (tsize e) with h0 | h0
      · rw [h0] at hk'; simp at hk'
      · exact h0
    have hi:k / tsize e<n:=Nat.div_lt_of_lt_mul (by rw [Nat.mul_comm]; exact hk')
    refine RepC.one e (h.2.2 _ hi) _ ?_
    have hm:=Nat.div_add_mod k (tsize e)
    have hlt:=Nat.mod_lt k hpos
    rw [List.mem_iff_getElem?]
    refine ⟨k % tsize e,?_⟩
    rw [List.getElem?_take_of_lt hlt,List.getElem?_drop,Nat.mul_comm,hm,List.getElem?_eq_getElem hk]
  | .st fs,_,_,_,h=>by simp only [RepC] at h; exact RepF.one fs h
theorem RepF.one {A:Nat→Prop} {ρ:Refs} {w:World}:(fs:List Ty)→{j:Nat}→{x:denL fs}→{ov:Ov}→{cs:List Value}→RepF A ρ w fs j x ov cs→∀ c∈cs,c.oneCell'=true
  | [],_,_,_,_,h=>by simp only [RepF] at h; subst h; simp
  | t :: r,_,_,_,cs,h=>by
    simp only [RepF] at h
    intro c hc
    rw [← List.take_append_drop (tsize t) cs,List.mem_append] at hc
    rcases hc with hc | hc
    · exact RepC.one t h.1 c hc
    · exact RepF.one r h.2 c hc
end
theorem one_cellsL:(us:List SV)→(vs:List Value)→us.length=vs.length→szOk us vs→∀ c∈cellsL vs,c.oneCell'=true
  | [],[],_,_=>by simp [cellsL]
  | u :: r,v :: s,hl,h=>by
    simp only [szOk] at h
    intro c hc
    simp only [cellsL,List.mem_append] at hc
    rcases hc with hc | hc
    · exact h.2.1 c hc
    · exact one_cellsL r s (by simpa using hl) h.2.2 c hc
theorem RepVs.len {A:Nat→Prop} {ρ:Refs} {w:World}:(us:List SV)→{vs:List Value}→RepVs A ρ w us vs→us.length=vs.length
  | [],_,h=>by simp only [RepVs] at h; subst h; rfl
  | u :: r,_,h=>by
    simp only [RepVs] at h
    obtain ⟨v,vs',rfl,_,h3⟩:=h
    simp [RepVs.len r h3]
theorem RepV.one {A:Nat→Prop} {ρ:Refs} {w:World} {u:SV} {v:Value} {n:Nat} (hs:sized n u=true) (h:RepV A ρ w u v):∀ c∈v.cells.toList,c.oneCell'=true:=by
  cases u with
  | dat τ x ov =>
    simp only [RepV] at h
    obtain ⟨cs,h1,rfl⟩:=h
    rw [mkV_cells h1]
    exact RepC.one τ h1
  | ptr g p =>
    simp only [RepV] at h
    obtain ⟨s,_,_,rfl⟩:=h
    cases s.mp <;> simp [Value.cells,Value.oneCell']
  | ref τ x =>
    simp only [RepV] at h
    obtain ⟨_,_,_,rfl,_⟩:=h; simp [Value.cells,Value.oneCell']
  | refv u =>
    simp only [RepV] at h
    obtain ⟨_,_,_,rfl,_⟩:=h; simp [Value.cells,Value.oneCell']
  | selfc f us =>
    simp only [RepV] at h
    obtain ⟨_,_,rfl,_⟩:=h; simp [Value.cells,Value.oneCell']
  | glo k =>
    simp only [RepV] at h
    subst h; simp [Value.cells,Value.oneCell']
  | elp g i p =>
    simp only [RepV] at h
    obtain ⟨_,_,_,_,_,rfl⟩:=h; simp [Value.cells,Value.oneCell']
  | clo f caps =>
    simp only [RepV] at h
    obtain ⟨_,rfl,_⟩:=h; simp [Value.cells,Value.oneCell']
  | slv us =>
    simp only [RepV] at h
    obtain ⟨_,_,_,rfl,_⟩:=h; simp [Value.cells,Value.oneCell']
  | fmap ks us =>
    simp only [RepV] at h
    obtain ⟨_,_,_,rfl,_⟩:=h; simp [Value.cells,Value.oneCell']
  | agv us =>
    simp only [RepV] at h
    obtain ⟨vs,rfl,h2,h3⟩:=h
    exact one_cellsL us vs (RepVs.len us h2) h3
  | nilfn=>simp only [RepV] at h; subst h; simp [Value.cells,Value.oneCell']
  | und=>simp [sized] at hs
  | tup us=>simp [sized] at hs
  | junk=>simp [sized] at hs
mutual
theorem RepV.getV {A:Nat→Prop} {ρ:Refs} {w:World}:(u:SV)→{p:Path}→{v:Value}→{x:SV}→RepV A ρ w u v→Ghost.getV u p=some x →
    ∃ v',RepV A ρ w x v'∧v'.cells.toList=cut v.cells.toList (offV u p) v'.cells.size
  | u,[],v,x,h,hg=>by
    have:u=x:=by cases u <;> simpa [Ghost.getV] using hg
    subst this
    refine ⟨v,h,?_⟩
    have:offV u []=0:=by cases u <;> rfl
    rw [this,cut_all]; simp
  | .agv us,i :: p,v,x,h,hg=>by
    simp only [RepV] at h
    obtain ⟨vs,rfl,h2,h3⟩:=h
    simp only [Ghost.getV] at hg
    obtain ⟨v',k1,k2⟩:=RepVs.getV us h2 h3 hg
    exact ⟨v',k1,by simpa only [offV,Value.cells] using k2⟩
  | .dat _ _ _,_ :: _,_,_,_,hg=>by simp [Ghost.getV] at hg
  | .ptr _ _,_ :: _,_,_,_,hg=>by simp [Ghost.getV] at hg
  | .ref _ _,_ :: _,_,_,_,hg=>by simp [Ghost.getV] at hg
  | .refv _,_ :: _,_,_,_,hg=>by simp [Ghost.getV] at hg
  | .selfc _ _,_ :: _,_,_,_,hg=>by simp [Ghost.getV] at hg
  | .glo _,_ :: _,_,_,_,hg=>by simp [Ghost.getV] at hg
  | .elp _ _ _,_ :: _,_,_,_,hg=>by simp [Ghost.getV] at hg
  | .clo _ _,_ :: _,_,_,_,hg=>by simp [Ghost.getV] at hg
  | .tup _,_ :: _,_,_,_,hg=>by simp [Ghost.getV] at hg
  | .slv _,_ :: _,_,_,_,hg=>by simp [Ghost.getV] at hg
  | .fmap _ _,_ :: _,_,_,_,hg=>by simp [Ghost.getV] at hg
  | .nilfn,_ :: _,_,_,_,hg=>by simp [Ghost.getV] at hg
  | .und,_ :: _,_,_,_,hg=>by simp [Ghost.getV] at hg
  | .junk,_ :: _,_,_,_,hg=>by simp [Ghost.getV] at hg
theorem RepVs.getV {A:Nat→Prop} {ρ:Refs} {w:World}:(us:List SV)→{i:Nat}→{p:Path}→{vs:List Value}→{x:SV}→RepVs A ρ w us vs→szOk us vs→getV.getVL us i p=some x →
    ∃ v',RepV A ρ w x v'∧v'.cells.toList=cut (cellsL vs) (offVL us i p) v'.cells.size
  | [],_,_,_,_,_,_,hg=>by simp [getV.getVL] at hg
  | u :: r,0,p,vs,x,h,hs,hg=>by
    simp only [RepVs] at h
    obtain ⟨v,vs',rfl,h2,h3⟩:=h
    simp only [getV.getVL] at hg
    obtain ⟨v',k1,k2⟩:=RepV.getV u h2 hg
    refine ⟨v',k1,?_⟩
    rw [k2]
    simp only [offVL,cellsL]
    refine List.ext_getElem? fun k => ?_
    have hl:v'.cells.size≤v.cells.size - offV u p∨True:=.inr trivial
    have k3:(cut v.cells.toList (offV u p) v'.cells.size).length=v'.cells.size:=by rw [← k2]; simp
    have k4:v'.cells.size=min v'.cells.size (v.cells.size - offV u p):=by
      unfold cut at k3
      simp only [List.length_take,List.length_drop,Array.length_toList] at k3
      omega
    rw [getElem?_cut,getElem?_cut]
    by_cases hk:k<v'.cells.size
    · simp only [hk,if_true]
      rw [List.getElem?_append_left (by simp only [Array.length_toList]; omega)]
    · simp only [hk,if_false]
  | u :: r,n+1,p,vs,x,h,hs,hg=>by
    simp only [RepVs] at h
    obtain ⟨v,vs',rfl,h2,h3⟩:=h
    simp only [szOk] at hs
    simp only [getV.getVL] at hg
    obtain ⟨v',k1,k2⟩:=RepVs.getV r h3 hs.2.2 hg
    refine ⟨v',k1,?_⟩
    rw [k2]
    simp only [offVL,cellsL]
    unfold cut
    have hz:List.drop v.cells.size v.cells.toList=[]:=List.drop_eq_nil_of_le (by simp)
    rw [← hs.1,← List.drop_drop,List.drop_append_of_le_length (by simp),hz,List.nil_append]
end
def RepEnts (A:Nat→Prop) (ρ:Refs) (w:World) (κ ν:Ty):List (den κ×den ν)→List MapEntry→Prop
  | [],es=>es=[]
  | (k,v) :: r,es=>∃ e es',es=e :: es'∧(∃ cs,RepC A ρ w κ k [] cs∧e.key=mkV κ cs)∧(∃ cs,RepC A ρ w ν v [] cs∧e.val=mkV ν cs)∧RepEnts A ρ w κ ν r es'
def Born (es:List MapEntry) (c:Nat):Prop:=c=es.length∧∀ (j:Nat) e,es[j]?=some e→e.born=j
def Own (own:Nat→Option Nat) (w:World) (g:Nat) (s:Spot) (cs:List Value):Prop :=
  own s.b=some g∧w.rangeAt s.b 0 cs∧w.there s.b 0 cs.length
def Stays (A:Nat→Prop) (w:World) (s:Spot) (cs:List Value):Prop:=A s.b∧w.rangeAt s.b 0 cs
def RepBox (A:Nat→Prop) (ρ:Refs) (w:World) (g:Nat) (τ:Ty) (x:den τ) (ov:Ov) (M:Spot→List Value→Prop):Prop :=
  ∃ s cs,ρ g=some s∧s.mp=false∧s.off=offP τ∧s.ok=okP τ∧M s cs∧RepC A ρ w τ x ov cs
def okV (u:SV) (p:Path):Prop:=∃ x,getV u p=some x
def RepBoxV (A:Nat→Prop) (ρ:Refs) (w:World) (g:Nat) (u:SV) (M:Spot→List Value→Prop):Prop :=
  ∃ s v,ρ g=some s∧s.mp=false∧s.off=offV u∧s.ok=okV u∧u≠.junk∧M s (Value.cells v).toList∧RepV A ρ w u v
def RepArr (A:Nat→Prop) (ρ:Refs) (w:World) (g:Nat) (e:Ty) (l:List (den e)) (M:Spot→List Value→Prop):Prop :=
  ∃ s,ρ g=some s∧s.mp=false∧s.es=tsize e∧0<tsize e∧s.off=offP e∧s.ok=okP e∧List.length l=s.len∧s.len≤s.cap ∧
    (0<s.cap→∃ cs,cs.length=s.cap * s.es∧M s cs∧∀ i,i<s.len→RepC A ρ w e (List.getD l i (dft e)) [] (cut cs (i * s.es) s.es))
def RepO (A:Nat→Prop) (ρ:Refs) (own:Nat→Option Nat) (w:World) (g:Nat):Obj→Prop
  | .box τ x ov=>RepBox A ρ w g τ x ov (Own own w g)
  | .boxv u=>RepBoxV A ρ w g u (Own own w g)
  | .fbox τ x ov=>RepBox A ρ w g τ x ov (Stays A w)
  | .fboxv u=>RepBoxV A ρ w g u (Stays A w)
  | .arr e l=>RepArr A ρ w g e l (Own own w g)
  | .frz e l=>RepArr A ρ w g e l (Stays A w)
  | .map κ ν l=>∃ s es c,ρ g=some s∧s.mp=true∧own s.b=some g∧(∀ p,s.ok p↔p=[])∧w.heap[s.b]?=some (.map es c)∧RepEnts A ρ w κ ν l es.toList∧Born es.toList c
  | .hid=>True
  | .dead=>True
  | .none=>ρ g=none
theorem RepEnts.mono {A A':Nat→Prop} {ρ ρ':Refs} {w w':World} (hA:∀ b,A b→A' b) (hρ:∀ g s,ρ g=some s→ρ' g=some s)
    (hw:∀ b,A b→w'.heap[b]?=w.heap[b]?) {κ ν:Ty}:{l:List (den κ×den ν)}→{es:List MapEntry}→RepEnts A ρ w κ ν l es→RepEnts A' ρ' w' κ ν l es
  | [],_,h=>by simpa only [RepEnts] using h
  | (k,v) :: r,_,h=>by
    simp only [RepEnts] at h ⊢
    obtain ⟨e,es',h1,⟨c1,h2,h3⟩,⟨c2,h4,h5⟩,h6⟩:=h
    exact ⟨e,es',h1,⟨c1,RepC.mono hA hρ hw κ h2,h3⟩,⟨c2,RepC.mono hA hρ hw ν h4,h5⟩,RepEnts.mono hA hρ hw h6⟩
theorem RepO.mono {A A':Nat→Prop} {ρ ρ':Refs} {own own':Nat→Option Nat} {w w':World} {g:Nat} (hA:∀ b,A b→A' b) (hρ:∀ g s,ρ g=some s→ρ' g=some s)
    (hw:∀ b,A b∨own b=some g→w'.heap[b]?=w.heap[b]?) (ho:∀ b,own b=some g→own' b=some g) (hn:ρ g=none→ρ' g=none):{o:Obj}→RepO A ρ own w g o→RepO A' ρ' own' w' g o
  | .box τ x ov,h=>by
    simp only [RepO,RepBox] at h ⊢
    obtain ⟨s,cs,h1,h2,h3,h4,⟨m1,m2,m3⟩,h5⟩:=h
    exact ⟨s,cs,hρ _ _ h1,h2,h3,h4,⟨ho _ m1,rangeAt_congr (hw _ (.inr m1)) m2,there_congr (hw _ (.inr m1)) m3⟩,RepC.mono hA hρ (fun b hb=>hw b (.inl hb)) τ h5⟩
  | .boxv u,h=>by
    simp only [RepO,RepBoxV] at h ⊢
    obtain ⟨s,cs,h1,h2,h3,h4,h6,⟨m1,m2,m3⟩,h5⟩:=h
    exact ⟨s,cs,hρ _ _ h1,h2,h3,h4,h6,⟨ho _ m1,rangeAt_congr (hw _ (.inr m1)) m2,there_congr (hw _ (.inr m1)) m3⟩,RepV.mono hA hρ (fun b hb=>hw b (.inl hb)) u h5⟩
  | .fbox τ x ov,h=>by
    simp only [RepO,RepBox] at h ⊢
    obtain ⟨s,cs,h1,h2,h3,h4,⟨m1,m2⟩,h5⟩:=h
    exact ⟨s,cs,hρ _ _ h1,h2,h3,h4,⟨hA _ m1,rangeAt_congr (hw _ (.inl m1)) m2⟩,RepC.mono hA hρ (fun b hb=>hw b (.inl hb)) τ h5⟩
  | .fboxv u,h=>by
    simp only [RepO,RepBoxV] at h ⊢
    obtain ⟨s,cs,h1,h2,h3,h4,h6,⟨m1,m2⟩,h5⟩:=h
    exact ⟨s,cs,hρ _ _ h1,h2,h3,h4,h6,⟨hA _ m1,rangeAt_congr (hw _ (.inl m1)) m2⟩,RepV.mono hA hρ (fun b hb=>hw b (.inl hb)) u h5⟩
  | .arr e l,h=>by
    simp only [RepO,RepArr] at h ⊢
    obtain ⟨s,h1,h2,h3,h4,h5,h6,h7,h8,h9⟩:=h
    refine ⟨s,hρ _ _ h1,h2,h3,h4,h5,h6,h7,h8,fun hc => ?_⟩
    obtain ⟨cs,k1,⟨m1,m2,m3⟩,k2⟩:=h9 hc
    exact ⟨cs,k1,⟨ho _ m1,rangeAt_congr (hw _ (.inr m1)) m2,there_congr (hw _ (.inr m1)) m3⟩,fun i hi=>RepC.mono hA hρ (fun b hb=>hw b (.inl hb)) e (k2 i hi)⟩
  | .frz e l,h=>by
    simp only [RepO,RepArr] at h ⊢
    obtain ⟨s,h1,h2,h3,h4,h5,h6,h7,h8,h9⟩:=h
    refine ⟨s,hρ _ _ h1,h2,h3,h4,h5,h6,h7,h8,fun hc => ?_⟩
    obtain ⟨cs,k1,⟨m1,m2⟩,k2⟩:=h9 hc
    exact ⟨cs,k1,⟨hA _ m1,rangeAt_congr (hw _ (.inl m1)) m2⟩,fun i hi=>RepC.mono hA hρ (fun b hb=>hw b (.inl hb)) e (k2 i hi)⟩
  | .map κ ν l,h=>by
    simp only [RepO] at h ⊢
    obtain ⟨s,es,c,h1,h2,h3,h4,h5,h6,h7⟩:=h
    exact ⟨s,es,c,hρ _ _ h1,h2,ho _ h3,h4,by rw [hw _ (.inr h3)]; exact h5,RepEnts.mono hA hρ (fun b hb=>hw b (.inl hb)) h6,h7⟩
  | .hid,_=>trivial
  | .dead,_=>trivial
  | .none,h=>hn h
def GlobOk (A:Nat→Prop) (w:World):Prop:=(∀ k d,globs k=some d→A k∧∃ cs,RepC A (fun _=>none) w d.τ d.x [] cs∧w.rangeAt k 0 cs) ∧
  ∀ k p,fglobs k=some p→A k∧∃ v,RepV A (fun _=>none) w (.fmap p.1 (p.2.map fun f=>.clo f [])) v∧w.rangeAt k 0 [v]
theorem GlobOk.mono {A A':Nat→Prop} {w w':World} (hA:∀ b,A b→A' b) (hw:∀ b,A b→w'.heap[b]?=w.heap[b]?) (h:GlobOk A w):GlobOk A' w':=⟨fun k d hd=>by
  obtain ⟨h1,cs,h2,h3⟩:=h.1 k d hd
  exact ⟨hA k h1,cs,RepC.mono hA (fun _ _ h=>h) hw d.τ h2,rangeAt_congr (hw k h1) h3⟩,fun k p hp=>by
  obtain ⟨h1,v,h2,h3⟩:=h.2 k p hp
  exact ⟨hA k h1,v,RepV.mono hA (fun _ _ h=>h) hw _ h2,rangeAt_congr (hw k h1) h3⟩⟩
structure Start where
  w:World
  A:Nat→Prop
structure St (B:Nat) (w0:Start) (A:Nat→Prop) (ρ:Refs) (own:Nat→Option Nat) (w:World) (h:Nat→Obj):Prop where
  objs:∀ g,RepO A ρ own w g (h g)
  apart:∀ b g,own b=some g→¬ A b
  old:∀ b,A b→b<w.heap.size
  oldO:∀ b g,own b=some g→b<w.heap.size
  base:∀ b g,own b=some g→B≤b
  below:RowKit.Below B w0.w w
  hB:B≤w0.w.heap.size
  imm:∀ b,A b→w0.A b∨B≤b
  names:∀ g,(∃ s,ρ g=some s)→h g≠.none
  glob:GlobOk A w
structure Later (A:Nat→Prop) (ρ:Refs) (w:World) (A':Nat→Prop) (ρ':Refs) (w':World):Prop where
  hA:∀ b,A b→A' b
  hρ:∀ g s,ρ g=some s→ρ' g=some s
  hw:∀ b,A b→w'.heap[b]?=w.heap[b]?
theorem Later.refl (A:Nat→Prop) (ρ:Refs) (w:World):Later A ρ w A ρ w:=⟨fun _ h=>h,fun _ _ h=>h,fun _ _=>rfl⟩
theorem Later.trans {A A' A'':Nat→Prop} {ρ ρ' ρ'':Refs} {w w' w'':World} (h:Later A ρ w A' ρ' w') (k:Later A' ρ' w' A'' ρ'' w''):Later A ρ w A'' ρ'' w'' :=
  ⟨fun b hb=>k.hA b (h.hA b hb),fun g s hs=>k.hρ g s (h.hρ g s hs),fun b hb=>(k.hw b (h.hA b hb)).trans (h.hw b hb)⟩
theorem Later.repV {A A':Nat→Prop} {ρ ρ':Refs} {w w':World} (h:Later A ρ w A' ρ' w') {u:SV} {v:Value} (hv:RepV A ρ w u v):RepV A' ρ' w' u v :=
  RepV.mono h.hA h.hρ h.hw u hv
theorem Later.repC {A A':Nat→Prop} {ρ ρ':Refs} {w w':World} (h:Later A ρ w A' ρ' w') {τ:Ty} {x:den τ} {ov:Ov} {cs:List Value} (hv:RepC A ρ w τ x ov cs):RepC A' ρ' w' τ x ov cs :=
  RepC.mono h.hA h.hρ h.hw τ hv
theorem St.turn {B:Nat} {w0:Start} {A A':Nat→Prop} {ρ ρ':Refs} {own own':Nat→Option Nat} {w w':World} {h h':Nat→Obj} (st:St B w0 A ρ own w h) (G:Nat→Prop)
    (hl:Later A ρ w A' ρ' w') (hw:∀ b g,own b=some g→¬ G g→w'.heap[b]?=w.heap[b]?) (ho:∀ b g,own b=some g→¬ G g→own' b=some g)
    (hn:∀ g,¬ G g→ρ g=none→ρ' g=none) (hh:∀ g,¬ G g→h' g=h g) (hG:∀ g,G g→RepO A' ρ' own' w' g (h' g)) (hGn:∀ g,G g→h' g≠.none)
    (hap:∀ b g,own' b=some g→¬ A' b) (hold:∀ b,A' b→b<w'.heap.size) (holdO:∀ b g,own' b=some g→b<w'.heap.size) (hbase:∀ b g,own' b=some g→B≤b)
    (hbelow:RowKit.Below B w w') (himm:∀ b,A' b→A b∨B≤b):St B w0 A' ρ' own' w' h' where
  glob:=st.glob.mono hl.hA hl.hw
  objs g:=by
    by_cases hg:G g
    · exact hG g hg
    · rw [hh g hg]
      refine RepO.mono hl.hA hl.hρ (fun b hb => ?_) (fun b hb=>ho b g hb hg) (hn g hg) (st.objs g)
      rcases hb with hb | hb
      · exact hl.hw b hb
      · exact hw b g hb hg
  apart:=hap
  old:=hold
  oldO:=holdO
  base:=hbase
  below:=st.below.trans hbelow
  hB:=st.hB
  imm b hb:=(himm b hb).elim (st.imm b) .inr
  names g hg:=by
    by_cases hg':G g
    · exact hGn g hg'
    · rw [hh g hg']
      refine st.names g ?_
      cases hr:ρ g with
      | none=>obtain ⟨s,hs⟩:=hg; rw [hn g hg' hr] at hs; cases hs
      | some s=>exact ⟨s,rfl⟩
end Go.Proofs.YtjobjooccgledaaDoor.Ghost
namespace Go.Proofs.YtjobjooccgledaaDoor.Ghost
open Go
mutual
def zeroCells:Ty→List Value
  | .bool=>[.bool false]
  | .int k=>[.int k 0]
  | .str=>[.string ⟨#[]⟩]
  | .sl _=>[.slice none 0 0]
  | .arr n e=>repL n (zeroCells e)
  | .st fs=>zeroCellsF fs
def zeroCellsF:List Ty→List Value
  | []=>[]
  | t :: r=>zeroCells t ++ zeroCellsF r
def repL:Nat→List Value→List Value
  | 0,_=>[]
  | n+1,l=>l ++ repL n l
end
def zCell:Value→Value→Bool
  | .bool a,.bool b=>a == b
  | .int k a,.int k' b=>decide (k=k') && decide (a=b)
  | .string a,.string b=>Nat.beq a.data.size 0 && Nat.beq b.data.size 0
  | .slice none 0 0,.slice none 0 0=>true
  | .nilFunc,.nilFunc=>true
  | _,_=>false
def zCellL:List Value→List Value→Bool
  | [],[]=>true
  | a :: r,b :: s=>zCell a b && zCellL r s
  | _,_=>false
theorem zCell_eq:{a b:Value}→zCell a b=true→a=b
  | .bool a,.bool b,h=>by simp [zCell] at h; rw [h]
  | .int k a,.int k' b,h=>by simp [zCell] at h; rw [h.1,h.2]
  | .string a,.string b,h=>by
    simp only [zCell,Bool.and_eq_true] at h
    have h1:=Nat.eq_of_beq_eq_true h.1
    have h2:=Nat.eq_of_beq_eq_true h.2
    obtain ⟨⟨l⟩⟩:=a
    obtain ⟨⟨m⟩⟩:=b
    simp at h1 h2
    subst h1; subst h2; rfl
  | .slice none 0 0,.slice none 0 0,_=>rfl
  | .nilFunc,.nilFunc,_=>rfl
theorem zCellL_eq:{a b:List Value}→zCellL a b=true→a=b
  | [],[],_=>rfl
  | a :: r,b :: s,h=>by
    simp only [zCellL,Bool.and_eq_true] at h
    rw [zCell_eq h.1,zCellL_eq h.2]
def sizeIs (P:Program) (t:TypeId) (n:Nat):Bool:=match P.info? t with
  | some i=>Nat.beq i.size n
  | none=>false
mutual
def descOk (P:Program):Ty→TypeId→Bool
  | .bool,t=>(match P.underlying t with | some .bool=>true | _=>false)
  | .int k,t=>(match P.underlying t with | some (.int k')=>decide (k=k') | _=>false)
  | .str,t=>(match P.underlying t with | some .string=>true | _=>false)
  | .sl e,t=>(match P.underlying t with | some (.slice e')=>descOk P e e' && sizeIs P e' (tsize e) && Nat.blt 0 (tsize e) | _=>false)
  | .arr n e,t=>(match P.underlying t with | some (.array n' e')=>Nat.beq n' n && descOk P e e' && sizeIs P e' (tsize e) && Nat.blt 0 (tsize e) | _=>false)
  | .st fs,t=>(match P.underlying t with | some (.struct l)=>fieldsOk P fs 0 l.toList | _=>false)
def fieldsOk (P:Program):List Ty→Nat→List Field→Bool
  | [],_,[]=>true
  | t :: r,o,f :: s=>Nat.beq f.offset o && sizeIs P f.type (tsize t) && Nat.blt 0 (tsize t) && descOk P t f.type && fieldsOk P r (o+tsize t) s
  | _,_,_=>false
end
def zeroOk (P:Program) (τ:Ty) (t:TypeId):Bool:=match P.info? t with
  | some i=>(match i.zero with | some (.agg cs)=>isAg τ && zCellL cs.toList (zeroCells τ) | some v => !(isAg τ) && zCellL [v] (zeroCells τ) | none=>false)
  | none=>false
def tyOk (P:Program) (τ:Ty) (t:TypeId):Bool:=descOk P τ t && sizeIs P t (tsize τ) && zeroOk P τ t
theorem sizeIs_spec {P:Program} {t:TypeId} {n:Nat} (h:sizeIs P t n=true):∃ i,P.info? t=some i∧i.size=n:=by
  unfold sizeIs at h
  split at h
  · rename_i i hi; exact ⟨i,hi,Nat.eq_of_beq_eq_true h⟩
  · cases h
theorem sizeIs_map {P:Program} {t:TypeId} {n:Nat} (h:sizeIs P t n=true):(P.info? t).map (·.size)=some n:=by
  obtain ⟨i,h1,h2⟩:=sizeIs_spec h
  rw [h1]; simp [h2]
theorem run_sizeOf' {P:Program} {t:TypeId} {n:Nat} (h:sizeIs P t n=true) (w:World):(sizeOf t).run P w=.ok n w:=by
  obtain ⟨i,h1,h2⟩:=sizeIs_spec h
  simp [sizeOf,typeInfo,h1,h2]
theorem run_typeInfo' {P:Program} {t:TypeId} {i:TypeInfo} (h:P.info? t=some i) (w:World):(typeInfo t).run P w=.ok i w:=by
  simp [typeInfo,h]
theorem descOk_desc {P:Program}:{τ:Ty}→{t:TypeId}→descOk P τ t=true→∃ d,P.underlying t=some d∧d.isRow=isAg τ
  | .bool,_,h=>by simp only [descOk] at h; split at h <;> simp_all [isAg,TypeDesc.isRow]
  | .int k,_,h=>by simp only [descOk] at h; split at h <;> simp_all [isAg,TypeDesc.isRow]
  | .str,_,h=>by simp only [descOk] at h; split at h <;> simp_all [isAg,TypeDesc.isRow]
  | .sl e,_,h=>by simp only [descOk] at h; split at h <;> simp_all [isAg,TypeDesc.isRow]
  | .arr n e,_,h=>by simp only [descOk] at h; split at h <;> simp_all [isAg,TypeDesc.isRow]
  | .st fs,_,h=>by simp only [descOk] at h; split at h <;> simp_all [isAg,TypeDesc.isRow]
theorem run_isAgg' {P:Program} {t:TypeId} {d:TypeDesc} (h:P.underlying t=some d) (w:World):(isAgg t).run P w=.ok d.isRow w:=by
  unfold isAgg
  rw [Sem.run_bind,run_underlying h w]
  cases d <;> rfl
theorem zeroOk_spec {P:Program} {τ:Ty} {t:TypeId} (h:zeroOk P τ t=true) (w:World):(zeroValue t).run P w=.ok (mkV τ (zeroCells τ)) w:=by
  unfold zeroOk at h
  cases hi:P.info? t with
  | none=>rw [hi] at h; cases h
  | some i =>
    simp only [hi] at h
    simp only [zeroValue,Sem.run_bind,run_typeInfo' hi,Result.andThen_ok]
    cases hz:i.zero with
    | none=>simp [hz] at h
    | some v =>
      simp only [hz] at h
      have key:v=mkV τ (zeroCells τ):=by
        cases v with
        | agg cs =>
          simp only [Bool.and_eq_true] at h
          have:=zCellL_eq h.2
          unfold mkV
          rw [h.1,← this]
        | _ =>
          simp only [Bool.and_eq_true,Bool.not_eq_true'] at h
          have:=zCellL_eq h.2
          unfold mkV
          rw [h.1,← this]; rfl
      subst key
      rfl
theorem length_repL (n:Nat) (l:List Value):(repL n l).length=n * l.length:=by
  induction n with
  | zero=>simp [repL]
  | succ n ih=>simp only [repL,List.length_append,ih,Nat.add_mul,Nat.one_mul]; omega
theorem cut_repL (l:List Value):(n i:Nat)→i<n→cut (repL n l) (i * l.length) l.length=l
  | 0,_,h=>by omega
  | n+1,0,_=>by simp [cut,repL]
  | n+1,i+1,h=>by
    have:=cut_repL l n i (by omega)
    unfold cut at this ⊢
    rw [show (i+1) * l.length=l.length+i * l.length by rw [Nat.add_mul]; omega]
    simp only [repL]
    rw [← List.drop_drop,List.drop_append_of_le_length (by omega),List.drop_length,List.nil_append]
    exact this
theorem getD_replicate {α:Type} {n i:Nat} {x d:α} (h:i<n):(List.replicate n x).getD i d=x:=by
  rw [List.getD_eq_getElem?_getD,List.getElem?_replicate,if_pos h]; rfl
mutual
theorem RepC.zero (A:Nat→Prop) (ρ:Refs) (w:World):(τ:Ty)→RepC A ρ w τ (dft τ) [] (zeroCells τ)
  | .bool=>by simp only [RepC,dft,zeroCells]
  | .int k=>by simp only [RepC,dft,zeroCells]
  | .str=>by simp only [RepC,dft,zeroCells]
  | .sl e=>by
    simp only [RepC,zeroCells]
    exact ⟨none,0,0,rfl,by simp,fun _=>⟨rfl,by simp⟩⟩
  | .arr n e=>by
    have he:=RepC.zero A ρ w e
    have hl:=RepC.length e he
    simp only [RepC,zeroCells]
    refine ⟨by simp [dft],by rw [length_repL,hl],fun i hi => ?_⟩
    have hc:=cut_repL (zeroCells e) n i hi
    rw [hl] at hc
    simp only [dft]
    change RepC A ρ w e _ _ (cut (repL n (zeroCells e)) (i * tsize e) (tsize e))
    rw [getD_replicate hi,hc]
    exact he
  | .st fs=>by simp only [RepC,zeroCells]; exact RepF.zero A ρ w fs 0
theorem RepF.zero (A:Nat→Prop) (ρ:Refs) (w:World):(fs:List Ty)→(j:Nat)→RepF A ρ w fs j (dftL fs) [] (zeroCellsF fs)
  | [],_=>by simp only [RepF,zeroCellsF]
  | t :: r,j=>by
    have ht:=RepC.zero A ρ w t
    have hl:=RepC.length t ht
    simp only [RepF,zeroCellsF]
    exact ⟨by rw [← hl,List.take_left]; exact ht,by rw [← hl,List.drop_left]; exact RepF.zero A ρ w r (j+1)⟩
end
def constOk:(τ:Ty)→den τ→Value→Bool
  | .bool,x,.bool b=>x == b
  | .int k,x,.int k' n=>decide (k=k') && decide (x=n)
  | .str,x,.string s=>decide (x.data.toList=s.data.toList)
  | .sl _,x,.slice _ 0 _=>List.isEmpty x
  | _,_,_=>false
def chkOpd:Opd→Operand→Bool
  | .t i,.tmp j=>Nat.beq i j
  | .g k,.global g=>Nat.beq k g
  | .c τ x,.const v=>constOk τ x v
  | .f f,.func g=>Nat.beq f g
  | .nf,.const .nilFunc=>true
  | _,_=>false
def chkOpds:List Opd→List Operand→Bool
  | [],[]=>true
  | x :: r,y :: s=>chkOpd x y && chkOpds r s
  | _,_=>false
def SlotsOk (A:Nat→Prop) (ρ:Refs) (w:World) (s:Nat→SV) (a:Act):Prop:=∀ i,RepV A ρ w (s i) (a.eval (.tmp i))
theorem constOk_rep {A:Nat→Prop} {ρ:Refs} {w:World}:(τ:Ty)→(x:den τ)→(v:Value)→constOk τ x v=true→RepV A ρ w (.dat τ x []) v
  | .bool,x,.bool b,h=>by simp only [constOk,beq_iff_eq] at h; subst h; simp only [RepV,RepC]; exact ⟨_,rfl,rfl⟩
  | .int k,x,.int k' n,h=>by
    simp only [constOk,Bool.and_eq_true,decide_eq_true_eq] at h
    obtain ⟨rfl,rfl⟩:=h
    simp only [RepV,RepC]; exact ⟨_,rfl,rfl⟩
  | .str,x,.string s,h=>by
    simp only [constOk,decide_eq_true_eq] at h
    have:x=s:=by
      obtain ⟨⟨l⟩⟩:=x
      obtain ⟨⟨m⟩⟩:=s
      simpa using h
    subst this
    simp only [RepV,RepC]; exact ⟨_,rfl,rfl⟩
  | .sl e,x,.slice a 0 c,h=>by
    simp only [constOk,List.isEmpty_iff] at h
    subst h
    simp only [RepV,RepC]
    exact ⟨[.slice a 0 c],⟨a,0,c,rfl,by simp,fun _=>⟨rfl,by simp⟩⟩,rfl⟩
theorem opd_ok {A:Nat→Prop} {ρ:Refs} {w:World} {s:Nat→SV} {a:Act} (hs:SlotsOk A ρ w s a):{x:Opd}→{y:Operand}→chkOpd x y=true→RepV A ρ w (evO s x) (a.eval y)
  | .t i,.tmp j,h=>by
    have:=Nat.eq_of_beq_eq_true (by simpa only [chkOpd] using h)
    subst this
    exact hs i
  | .c τ x,.const v,h=>constOk_rep τ x v h
  | .f f,.func g,h=>by
    have:=Nat.eq_of_beq_eq_true (by simpa only [chkOpd] using h)
    subst this
    simp only [evO,RepV]
    exact ⟨[],rfl,by simp only [RepVs]⟩
  | .nf,.const .nilFunc,_=>by simp only [evO,RepV]; rfl
  | .g k,.global g,h=>by
    have:=Nat.eq_of_beq_eq_true (by simpa only [chkOpd] using h)
    subst this
    simp only [evO,RepV]; rfl
theorem opds_ok {A:Nat→Prop} {ρ:Refs} {w:World} {s:Nat→SV} {a:Act} (hs:SlotsOk A ρ w s a):{xs:List Opd}→{ys:List Operand}→chkOpds xs ys=true→RepVs A ρ w (xs.map (evO s)) (ys.map a.eval)
  | [],[],_=>by simp only [List.map_nil,RepVs]
  | x :: r,y :: t,h=>by
    simp only [chkOpds,Bool.and_eq_true] at h
    simp only [List.map_cons,RepVs]
    exact ⟨_,_,rfl,opd_ok hs h.1,opds_ok hs h.2⟩
end Go.Proofs.YtjobjooccgledaaDoor.Ghost
namespace Go.Proofs.YtjobjooccgledaaDoor.Ghost
open Go
def appE (h:Nat→Obj):Eff→Nat→Obj
  | []=>h
  | (g,o) :: r=>appE (fun i=>if i=g then o else h i) r
theorem getO_setO:(h:Heap)→(g i:Nat)→(o:Obj)→getO (setO h g o) i=if i=g then o else getO h i
  | [],0,0,o=>by simp [setO,getO]
  | [],0,i+1,o=>by simp [setO,getO]
  | [],g+1,0,o=>by simp [setO,getO]
  | [],g+1,i+1,o=>by
    have:=getO_setO [] g i o
    simp only [setO,getO,this,Nat.add_right_cancel_iff]
  | x :: r,0,0,o=>by simp [setO,getO]
  | x :: r,0,i+1,o=>by simp [setO,getO]
  | x :: r,g+1,0,o=>by simp [setO,getO]
  | x :: r,g+1,i+1,o=>by
    have:=getO_setO r g i o
    simp only [setO,getO,this,Nat.add_right_cancel_iff]
theorem getO_applyE (h:Heap):(e:Eff)→getO (applyE h e)=appE (getO h) e
  | []=>rfl
  | (g,o) :: r=>by
    have h1:=getO_applyE (setO h g o) r
    simp only [applyE,appE,h1]
    congr 1
    funext i
    rw [getO_setO]
def OpGood (P:Program) (o:Oper) (a:Act) (w:World) (B:Nat) (w0:Start) (A:Nat→Prop) (ρ:Refs) (v:SV) (h':Nat→Obj):Prop :=
  ∀ (next:Act→World→Prop) (Q:Exit→Act→World→Prop),
    (∀ v' w' A' ρ' own',St B w0 A' ρ' own' w' h'→Later A ρ w A' ρ' w'→RepV A' ρ' w' v v'→next (a.put o.dst v') w')→o.wp P a w next Q
section
variable {P:Program} {o:Oper} {a:Act} {w:World} {B:Nat} {w0:Start} {A:Nat→Prop} {ρ:Refs} {own:Nat→Option Nat} {h:Nat→Obj} {s:Nat→SV}
theorem OpGood.pure {v:SV} {v':Value} (st:St B w0 A ρ own w h) (he:(execOp a.eval o).run P w=.ok (.value v') w) (hv:RepV A ρ w v v') :
    OpGood P o a w B w0 A ρ v h:=fun next Q K=>by
  unfold Oper.wp; rw [he]; exact K v' w A ρ own st (Later.refl ..) hv
theorem OpGood.value {v:SV} {v':Value} {w':World} {A':Nat→Prop} {ρ':Refs} {own':Nat→Option Nat} {h':Nat→Obj} (he:(execOp a.eval o).run P w=.ok (.value v') w')
    (st:St B w0 A' ρ' own' w' h') (hl:Later A ρ w A' ρ' w') (hv:RepV A' ρ' w' v v'):OpGood P o a w B w0 A ρ v h':=fun next Q K=>by
  unfold Oper.wp; rw [he]; exact K v' w' A' ρ' own' st hl hv
theorem OpGood.skip {v:SV} {w':World} {A':Nat→Prop} {ρ':Refs} {own':Nat→Option Nat} {h':Nat→Obj} (he:(execOp a.eval o).run P w=.ok .skip w')
    (st:St B w0 A' ρ' own' w' h') (hl:Later A ρ w A' ρ' w') (hv:RepV A' ρ' w' v undef):OpGood P o a w B w0 A ρ v h':=fun next Q K=>by
  unfold Oper.wp; rw [he]; exact K undef w' A' ρ' own' st hl hv
theorem repV_int {k:IntKind} {n:Int} {ov:Ov} {v:Value} (h:RepV A ρ w (.dat (.int k) n ov) v):v=.int k n:=by
  simp only [RepV,RepC] at h; obtain ⟨_,rfl,rfl⟩:=h; rfl
theorem repV_bool {b:Bool} {ov:Ov} {v:Value} (h:RepV A ρ w (.dat .bool b ov) v):v=.bool b:=by
  simp only [RepV,RepC] at h; obtain ⟨_,rfl,rfl⟩:=h; rfl
theorem mk_int {k:IntKind} {n:Int} {ov:Ov}:RepV A ρ w (.dat (.int k) n ov) (.int k n):=by
  simp only [RepV,RepC]; exact ⟨_,rfl,rfl⟩
theorem mk_bool {b:Bool} {ov:Ov}:RepV A ρ w (.dat .bool b ov) (.bool b):=by
  simp only [RepV,RepC]; exact ⟨_,rfl,rfl⟩
theorem repV_und {v:Value} (h:RepV A ρ w .und v):v=undef:=by simpa only [RepV] using h
def chkMove (o:Oper) (x:Opd):Bool:=match o.op with
  | .move y=>chkOpd x y
  | .assign y=>chkOpd x y
  | _=>false
variable (st:St B w0 A ρ own w h) (hs:SlotsOk A ρ w s a)
include st hs
theorem good_move {x:Opd} (hc:chkMove o x=true):OpGood P o a w B w0 A ρ (evO s x) h:=by
  unfold chkMove at hc
  split at hc
  · rename_i y hy
    exact OpGood.pure st (by simp [execOp,hy]) (opd_ok hs hc)
  · rename_i y hy
    exact OpGood.pure st (by simp [execOp,hy]) (opd_ok hs hc)
  · cases hc
def chkPick (o:Oper) (c x y:Opd):Bool:=match o.op with
  | .pick c' x' y'=>chkOpd c c' && chkOpd x x' && chkOpd y y'
  | _=>false
omit st hs in
theorem chkPick_spec {c x y:Opd} (hc:chkPick o c x y=true):∃ c' x' y',o.op=.pick c' x' y'∧chkOpd c c'=true∧chkOpd x x'=true∧chkOpd y y'=true:=by
  unfold chkPick at hc
  split at hc
  · rename_i c' x' y' ho
    simp only [Bool.and_eq_true] at hc
    exact ⟨c',x',y',ho,hc.1.1,hc.1.2,hc.2⟩
  · cases hc
theorem good_pick {c x y:Opd} (hc:chkPick o c x y=true) {t:Bool} {ov:Ov} (ht:evO s c=.dat .bool t ov) {v:SV}
    (hv:∀ u u',RepV A ρ w (evO s x) u→RepV A ρ w (evO s y) u'→RepV A ρ w v (if t then u else u')):OpGood P o a w B w0 A ρ v h:=by
  obtain ⟨c',x',y',ho,h1,h2,h3⟩:=chkPick_spec hc
  have k1:=opd_ok hs h1
  rw [ht] at k1
  have k1:=repV_bool k1
  exact OpGood.pure st (by simp [execOp,ho,k1,asBool]) (hv _ _ (opd_ok hs h2) (opd_ok hs h3))
def chkBin (o:Oper) (op:BinOp) (x y:Opd):Bool:=match o.op with
  | .binOp op' _ x' y' _=>decide (op'=op) && chkOpd x x' && chkOpd y y'
  | _=>false
omit st hs in
theorem chkBin_spec {op:BinOp} {x y:Opd} (hc:chkBin o op x y=true):∃ t x' y' t',o.op=.binOp op t x' y' t'∧chkOpd x x'=true∧chkOpd y y'=true:=by
  unfold chkBin at hc
  split at hc
  · rename_i op' t x' y' t' ho
    simp only [Bool.and_eq_true,decide_eq_true_eq] at hc
    obtain ⟨⟨rfl,h1⟩,h2⟩:=hc
    exact ⟨t,x',y',t',ho,h1,h2⟩
  · cases hc
omit st hs in
theorem run_eqGuard_int (op:BinOp) (t:TypeId) (x y:Operand) (k k':IntKind) (m n:Int):(eqGuard op t x y (.int k m) (.int k' n)).run P w=.ok () w:=by
  unfold eqGuard; cases op <;> rfl
omit st hs in
theorem run_eqGuard_bool (op:BinOp) (t:TypeId) (x y:Operand) (m n:Bool):(eqGuard op t x y (.bool m) (.bool n)).run P w=.ok () w:=by
  unfold eqGuard; cases op <;> rfl
omit st hs in
theorem run_eqGuard_str (op:BinOp) (t:TypeId) (x y:Operand) (m n:ByteArray):(eqGuard op t x y (.string m) (.string n)).run P w=.ok () w:=by
  unfold eqGuard; cases op <;> rfl
theorem good_bin {R:Type} {op:BinOp} {x y:Opd} {K:SV→Option R} {r:R}
    (hc:chkBin o op x y=true) (hg:binG op (evO s x) (evO s y) K=some r) :
    ∃ v,K v=some r∧OpGood P o a w B w0 A ρ v h:=by
  obtain ⟨t,x',y',t',ho,h1,h2⟩:=chkBin_spec hc
  have k1:=opd_ok hs h1
  have k2:=opd_ok hs h2
  unfold binG at hg
  split at hg
  · rename_i k m ov k' n ov' e1 e2
    rw [e1] at k1; rw [e2] at k2
    have k1:=repV_int k1
    have k2:=repV_int k2
    split at hg
    · rename_i hk
      subst hk
      have fin:∀ v:Value,(Go.binOp op t (.int k m) (.int k n)).run P w=.ok v w→(execOp a.eval o).run P w=.ok (.value v) w:=fun v hv=>by
        simp only [execOp,ho,k1,k2,Sem.run_bind,run_eqGuard_int,Result.andThen_ok,hv,Sem.run_pure]
      unfold binInt at hg
      split at hg
      · exact ⟨_,hg,OpGood.pure st (fin _ (by simp [Go.binOp,Op.intArith])) mk_int⟩
      · exact ⟨_,hg,OpGood.pure st (fin _ (by simp [Go.binOp,Op.intArith])) mk_int⟩
      · exact ⟨_,hg,OpGood.pure st (fin _ (by simp [Go.binOp,Op.intArith])) mk_int⟩
      · split at hg
        · cases hg
        · rename_i hn
          exact ⟨_,hg,OpGood.pure st (fin _ (by simp [Go.binOp,Op.intDiv,hn])) mk_int⟩
      · split at hg
        · cases hg
        · rename_i hn
          exact ⟨_,hg,OpGood.pure st (fin _ (by simp [Go.binOp,Op.intDiv,hn])) mk_int⟩
      · exact ⟨_,hg,OpGood.pure st (fin _ (by simp [Go.binOp,Op.intCmp]; try rfl)) mk_bool⟩
      · exact ⟨_,hg,OpGood.pure st (fin _ (by simp [Go.binOp,Op.intCmp,bne]; try rfl)) mk_bool⟩
      · exact ⟨_,hg,OpGood.pure st (fin _ (by simp [Go.binOp,Op.intCmp]; try rfl)) mk_bool⟩
      · exact ⟨_,hg,OpGood.pure st (fin _ (by simp [Go.binOp,Op.intCmp]; try rfl)) mk_bool⟩
      · exact ⟨_,hg,OpGood.pure st (fin _ (by simp [Go.binOp,Op.intCmp]; try rfl)) mk_bool⟩
      · exact ⟨_,hg,OpGood.pure st (fin _ (by simp [Go.binOp,Op.intCmp]; try rfl)) mk_bool⟩
      · cases hg
    · cases hg
  · cases hg
end
end Go.Proofs.YtjobjooccgledaaDoor.Ghost
namespace Go.Proofs.YtjobjooccgledaaDoor.Ghost
open Go
section
variable {P:Program} {o:Oper} {a:Act} {w:World} {B:Nat} {w0:Start} {A:Nat→Prop} {ρ:Refs} {own:Nat→Option Nat} {h:Nat→Obj} {s:Nat→SV}
def chkNot (o:Oper) (x:Opd):Bool:=match o.op with
  | .unOp .not _ y=>chkOpd x y
  | _=>false
def chkNeg (o:Oper) (x:Opd):Bool:=match o.op with
  | .unOp .neg _ y=>chkOpd x y
  | _=>false
def isI (P:Program) (k:IntKind) (t:TypeId):Bool:=match P.underlying t with
  | some (.int k')=>decide (k'=k)
  | _=>false
def chkConv (P:Program) (o:Oper) (k:IntKind) (x:Opd):Bool:=match o.op with
  | .convert src dst y=>isI P k dst && (P.underlying src).isSome && chkOpd x y
  | _=>false
def chkExtract (o:Oper) (x:Opd) (i:Nat):Bool:=match o.op with
  | .extract y j=>Nat.beq i j && chkOpd x y
  | _=>false
def chkFunc (o:Oper) (f:FuncId) (caps:List Opd):Bool:=match o.op with
  | .makeFunc (.func g) first captured=>Nat.beq f g && first.toList.isEmpty && chkOpds caps captured.toList
  | _=>false
def chkBi (o:Oper) (b:Builtin→Bool) (xs:List Opd):Bool:=match o.op with
  | .call c=>(match c.callee with | .builtin b'=>b b' | _=>false) && chkOpds xs c.args.toList
  | _=>false
def isStT (P:Program) (o:Oper):Bool:=match o.op with
  | .call c=>(match c.argTypes.toList with
    | t :: _=>(match P.underlying t with | some .string=>true | _=>false)
    | []=>false)
  | _=>false
def isSlT (P:Program) (o:Oper):Bool:=match o.op with
  | .call c=>(match c.argTypes.toList with | t :: _=>(match P.underlying t with | some (.slice _)=>true | _=>false) | _=>false)
  | _=>false
theorem isI_spec {k:IntKind} {t:TypeId} (h:isI P k t=true):P.underlying t=some (.int k):=by
  unfold isI at h
  split at h
  · rename_i k' hk; rw [hk]; simp at h; rw [h]
  · cases h
variable (st:St B w0 A ρ own w h) (hs:SlotsOk A ρ w s a)
include st hs
theorem good_not {x:Opd} (hc:chkNot o x=true) {b:Bool} {ov:Ov} (hx:evO s x=.dat .bool b ov):OpGood P o a w B w0 A ρ (.dat .bool (!b) []) h:=by
  unfold chkNot at hc
  split at hc
  · rename_i t y ho
    have k:=opd_ok hs hc
    rw [hx] at k
    have k:=repV_bool k
    exact OpGood.pure st (by simp [execOp,ho,k,Op.unary]) mk_bool
  · cases hc
theorem good_neg {x:Opd} (hc:chkNeg o x=true) {k:IntKind} {n:Int} {ov:Ov} (hx:evO s x=.dat (.int k) n ov):OpGood P o a w B w0 A ρ (.dat (.int k) (k.wrap (0 - n)) []) h:=by
  unfold chkNeg at hc
  split at hc
  · rename_i t y ho
    have k1:=opd_ok hs hc
    rw [hx] at k1
    have k1:=repV_int k1
    exact OpGood.pure st (v':=.int k (k.wrap (0 - n))) (by simp only [execOp,ho,k1,Op.unary,Op.intArith,Sem.run_bind,Sem.run_pure,Result.andThen_ok]) mk_int
  · cases hc
theorem good_conv {x:Opd} {k:IntKind} (hc:chkConv P o k x=true) {k':IntKind} {n:Int} {ov:Ov} (hx:evO s x=.dat (.int k') n ov):OpGood P o a w B w0 A ρ (.dat (.int k) (k.wrap n) []) h:=by
  unfold chkConv at hc
  split at hc
  · rename_i src dst y ho
    simp only [Bool.and_eq_true] at hc
    have k1:=opd_ok hs hc.2
    rw [hx] at k1
    have k1:=repV_int k1
    obtain ⟨d,hd⟩:=Option.isSome_iff_exists.1 hc.1.2
    have hi:=isI_spec hc.1.1
    refine OpGood.pure st (v':=.int k (k.wrap n)) ?_ mk_int
    simp only [execOp,ho,k1,convert,Sem.run_bind,run_underlying hd w,run_underlying hi w,Result.andThen_ok,Conv.intToInt,Sem.run_pure]
  · cases hc
theorem good_extract {x:Opd} {i:Nat} (hc:chkExtract o x i=true) {us:List SV} {u:SV} (hx:evO s x=.tup us) (hu:us[i]?=some u):OpGood P o a w B w0 A ρ u h:=by
  unfold chkExtract at hc
  split at hc
  · rename_i y j ho
    simp only [Bool.and_eq_true] at hc
    have hij:=Nat.eq_of_beq_eq_true hc.1
    subst hij
    have k1:=opd_ok hs hc.2
    rw [hx] at k1
    simp only [RepV] at k1
    obtain ⟨vs,k1,k2⟩:=k1
    have get:∀ (us:List SV) (vs:List Value) (i:Nat),RepVs A ρ w us vs→us[i]?=some u→∃ v,vs[i]?=some v∧RepV A ρ w u v:=by
      intro us
      induction us with
      | nil=>intro vs i _ h; simp at h
      | cons u' r ih =>
        intro vs i h1 h2
        simp only [RepVs] at h1
        obtain ⟨v,vs',rfl,h3,h4⟩:=h1
        cases i with
        | zero=>simp at h2; subst h2; exact ⟨v,by simp,h3⟩
        | succ i=>simpa using ih vs' i h4 (by simpa using h2)
    obtain ⟨v,m1,m2⟩:=get us vs i k2 hu
    refine OpGood.pure st (v':=v) ?_ m2
    simp [execOp,ho,k1,Instr.extract,m1]
  · cases hc
theorem good_func {f:FuncId} {caps:List Opd} (hc:chkFunc o f caps=true):OpGood P o a w B w0 A ρ (.clo f (caps.map (evO s))) h:=by
  unfold chkFunc at hc
  split at hc
  · rename_i g first captured ho
    simp only [Bool.and_eq_true,List.isEmpty_iff] at hc
    have hij:=Nat.eq_of_beq_eq_true hc.1.1
    subst hij
    have k1:=opds_ok hs hc.2
    have hf:first = #[]:=by simpa using hc.1.2
    subst hf
    refine OpGood.pure st (v':=.func (.func f) #[] (captured.map a.eval)) ?_ ?_
    · simp [execOp,ho,Instr.makeFunc]
    · simp only [RepV]
      exact ⟨_,by rw [← Array.toList_map],k1⟩
  · cases hc
omit st hs in
theorem chkBi_spec {b:Builtin→Bool} {xs:List Opd} (hc:chkBi o b xs=true):∃ c b',o.op=.call c∧c.callee=.builtin b'∧b b'=true∧chkOpds xs c.args.toList=true:=by
  unfold chkBi at hc
  split at hc
  · rename_i c ho
    simp only [Bool.and_eq_true] at hc
    cases hb:c.callee with
    | builtin b'=>simp only [hb] at hc; exact ⟨c,b',ho,hb,hc.1,hc.2⟩
    | value f=>simp [hb] at hc
    | invoke f m=>simp [hb] at hc
  · cases hc
omit st hs in
theorem run_builtin {c:Call} {b:Builtin} (ho:o.op=.call c) (hb:c.callee=.builtin b) :
    (execOp a.eval o).run P w=(builtin b c.argTypes o.type (c.args.map fun | .const _=>true | _=>false) (c.args.map a.eval)).run P w:=by
  simp [execOp,ho,Go.resolve,hb,invoke]; rfl
theorem good_lens {x:Opd} (hc:chkBi o (fun | .len=>true | _=>false) [x]=true) (ht:isStT P o=true) {y:ByteArray} {ov:Ov} (hx0:evO s x=.dat .str y ov):OpGood P o a w B w0 A ρ (.dat (.int .i64) ((ByteArray.size y:Nat):Int) []) h:=by
  obtain ⟨c,b,ho,hb,hbb,hx⟩:=chkBi_spec hc
  cases b <;> simp at hbb
  simp only [isStT,ho] at ht
  have hx':∃ y,c.args.toList=[y]∧chkOpd x y=true:=by
    cases hl:c.args.toList with
    | nil=>rw [hl] at hx; simp [chkOpds] at hx
    | cons y r=>cases r with
      | nil=>rw [hl] at hx; simp [chkOpds] at hx; exact ⟨y,rfl,hx⟩
      | cons z r=>rw [hl] at hx; simp [chkOpds] at hx
  obtain ⟨z,hy,hxy⟩:=hx'
  have hargs:c.args = #[z]:=by rw [← Array.toArray_toList (xs:=c.args),hy]
  cases htl:c.argTypes.toList with
  | nil=>simp [htl] at ht
  | cons t tr =>
    simp only [htl] at ht
    have ht0:c.argTypes[0]?=some t:=by rw [← Array.getElem?_toList,htl]; rfl
    have hu:P.underlying t=some .string:=by
      split at ht
      · rename_i he; exact he
      · cases ht
    have k1:=opd_ok hs hxy
    rw [hx0] at k1
    simp only [RepV,RepC] at k1
    obtain ⟨cs,rfl,hv⟩:=k1
    have hv:a.eval z=.string y:=hv
    refine OpGood.pure st (v':=.int .i64 ((ByteArray.size y:Nat):Int)) ?_ mk_int
    rw [run_builtin ho hb,hargs]
    simp only [builtin,Builtin.len_,List.map_toArray,List.map_cons,List.map_nil,hv,ht0,Sem.run_bind]
    simp [run_underlying hu w,goInt]
theorem good_len {x:Opd} (hc:chkBi o (fun | .len=>true | _=>false) [x]=true) (ht:isSlT P o=true) {R:Type} {K:SV→Option R} {r:R} (hg:lenG h (evO s x) K=some r) :
    ∃ v,K v=some r∧OpGood P o a w B w0 A ρ v h:=by
  obtain ⟨c,b,ho,hb,hbb,hx⟩:=chkBi_spec hc
  cases b <;> simp at hbb
  simp only [isSlT,ho] at ht
  have hx':∃ y,c.args.toList=[y]∧chkOpd x y=true:=by
    cases hl:c.args.toList with
    | nil=>rw [hl] at hx; simp [chkOpds] at hx
    | cons y r=>cases r with
      | nil=>rw [hl] at hx; simp [chkOpds] at hx; exact ⟨y,rfl,hx⟩
      | cons z r=>rw [hl] at hx; simp [chkOpds] at hx
  obtain ⟨y,hy,hxy⟩:=hx'
  have hargs:c.args = #[y]:=by rw [← Array.toArray_toList (xs:=c.args),hy]
  cases htl:c.argTypes.toList with
  | nil=>simp [htl] at ht
  | cons t tr =>
    simp only [htl] at ht
    have ht0:c.argTypes[0]?=some t:=by rw [← Array.getElem?_toList,htl]; rfl
    have hu:∃ e,P.underlying t=some (.slice e):=by
      split at ht
      · rename_i e he; exact ⟨e,he⟩
      · cases ht
    obtain ⟨e,hu⟩:=hu
    have k1:=opd_ok hs hxy
    have fin:∀ (ad:Option Addr) (n m:Nat),a.eval y=.slice ad n m→(execOp a.eval o).run P w=.ok (.value (.int .i64 n)) w:=fun ad n m hv=>by
      rw [run_builtin ho hb,hargs]
      simp only [builtin,Builtin.len_,List.map_toArray,List.map_cons,List.map_nil,hv,ht0,Sem.run_bind]
      simp [run_underlying hu w,goInt]
    unfold lenG at hg
    split at hg
    · rename_i el l e1
      rw [e1] at k1
      simp only [RepV,RepC] at k1
      obtain ⟨cs,⟨ad,n,m,rfl,_,h3⟩,hv⟩:=k1
      have hn:=(h3 (by simp)).1
      subst hn
      exact ⟨_,hg,OpGood.pure st (fin ad _ m hv) mk_int⟩
    · rename_i el l0 g e1
      rw [e1] at k1
      simp only [RepV,RepC] at k1
      obtain ⟨cs,⟨ad,n,m,rfl,h2,_⟩,hv⟩:=k1
      obtain ⟨sp,ad',hr,_,heq,_⟩:=h2 g (by simp)
      have ob:=st.objs g
      split at hg
      · rename_i el' l e2
        rw [e2] at ob
        simp only [RepO,RepArr] at ob
        obtain ⟨sp',hr',_,_,_,_,_,hl,_⟩:=ob
        rw [hr] at hr'
        cases hr'
        cases heq
        refine ⟨_,hg,OpGood.pure st (fin _ _ _ hv) ?_⟩
        rw [hl]; exact mk_int
      · rename_i el' l e2
        rw [e2] at ob
        simp only [RepO,RepArr] at ob
        obtain ⟨sp',hr',_,_,_,_,_,hl,_⟩:=ob
        rw [hr] at hr'
        cases hr'
        cases heq
        refine ⟨_,hg,OpGood.pure st (fin _ _ _ hv) ?_⟩
        rw [hl]; exact mk_int
      · cases hg
    · rename_i us e1
      rw [e1] at k1
      simp only [RepV] at k1
      obtain ⟨ad,n,m,hv,hn,_⟩:=k1
      subst hn
      exact ⟨_,hg,OpGood.pure st (fin _ _ _ hv) mk_int⟩
    · cases hg
end
end Go.Proofs.YtjobjooccgledaaDoor.Ghost
namespace Go.Proofs.YtjobjooccgledaaDoor.Ghost
open Go
theorem isSome_tyEq {a b:Ty} {p:PLift (a=b)} (_:tyEq a b=some p):a=b:=p.down
mutual
theorem okP_append:(τ:Ty)→(p q:Path)→(x:den τ)→(d:Dyn)→okP τ p→getP p τ x=some d→okP d.τ q→okP τ (p ++ q)∧offP τ (p ++ q)=offP τ p+offP d.τ q
  | τ,[],q,x,d,_,h,hq=>by
    have:d=⟨τ,x⟩:=by cases τ <;> simpa [getP,eq_comm] using h
    subst this
    have h0:offP τ []=0:=by cases τ <;> rfl
    exact ⟨hq,by rw [h0,Nat.zero_add]; rfl⟩
  | .st fs,i :: p,q,x,d,hk,h,hq=>by
    simp only [okP] at hk
    simp only [getP] at h
    simp only [List.cons_append,okP,offP]
    exact okF_append fs i p q x d hk h hq
  | .arr n e,i :: p,q,x,d,hk,h,hq=>by
    simp only [okP] at hk
    simp only [getP] at h
    simp only [List.cons_append,okP,offP]
    have:=okP_append e p q _ d hk.2 h hq
    exact ⟨⟨hk.1,this.1⟩,by rw [this.2]; omega⟩
  | .bool,_ :: _,_,_,_,hk,_,_=>by simp [okP] at hk
  | .int _,_ :: _,_,_,_,hk,_,_=>by simp [okP] at hk
  | .str,_ :: _,_,_,_,hk,_,_=>by simp [okP] at hk
  | .sl _,_ :: _,_,_,_,hk,_,_=>by simp [okP] at hk
theorem okF_append:(fs:List Ty)→(i:Nat)→(p q:Path)→(x:denL fs)→(d:Dyn)→okF fs i p →
    (match getF fs i x with | some d=>getP p d.τ d.x | none=>none)=some d→okP d.τ q→okF fs i (p ++ q)∧offF fs i (p ++ q)=offF fs i p+offP d.τ q
  | [],_,_,_,_,_,hk,_,_=>by simp [okF] at hk
  | t :: r,0,p,q,x,d,hk,h,hq=>by
    simp only [okF] at hk
    simp only [getF] at h
    simp only [okF,offF]
    exact okP_append t p q x.1 d hk h hq
  | t :: r,n+1,p,q,x,d,hk,h,hq=>by
    simp only [okF] at hk
    simp only [getF] at h
    simp only [okF,offF]
    have:=okF_append r n p q x.2 d hk h hq
    exact ⟨this.1,by rw [this.2]; omega⟩
end
theorem fieldsOk_get {P:Program}:(fs:List Ty)→(l:List Field)→(o j:Nat)→fieldsOk P fs o l=true→j<fs.length →
    ∃ f t,l[j]?=some f∧fs[j]?=some t∧f.offset=o+offF fs j []∧sizeIs P f.type (tsize t)=true∧0<tsize t∧descOk P t f.type=true∧okF fs j []
  | [],_,_,_,_,hj=>by simp at hj
  | _ :: _,[],_,_,h,_=>by simp [fieldsOk] at h
  | t :: r,f :: s,o,0,h,_=>by
    simp only [fieldsOk,Bool.and_eq_true] at h
    obtain ⟨⟨⟨⟨h1,h2⟩,h3⟩,h4⟩,_⟩:=h
    have h0:offP t []=0:=by cases t <;> rfl
    have k0:okP t []:=by cases t <;> trivial
    exact ⟨f,t,rfl,rfl,by simp only [offF,h0]; exact Nat.eq_of_beq_eq_true h1,h2,by simpa [Nat.blt_eq] using h3,h4,k0⟩
  | t :: r,f :: s,o,j+1,h,hj=>by
    simp only [fieldsOk,Bool.and_eq_true] at h
    obtain ⟨f',t',h1,h2,h3,h4⟩:=fieldsOk_get r s (o+tsize t) j h.2 (by simpa using hj)
    exact ⟨f',t',by simpa using h1,by simpa using h2,by simp only [offF]; omega,h4⟩
theorem getF_type:(fs:List Ty)→(j:Nat)→(x:denL fs)→(d:Dyn)→getF fs j x=some d→fs[j]?=some d.τ
  | [],_,_,_,h=>by simp [getF] at h
  | t :: r,0,x,d,h=>by simp [getF] at h; subst h; rfl
  | t :: r,n+1,x,d,h=>by simp only [getF] at h; simpa using getF_type r n x.2 d h
theorem getP_one {fs:List Ty} {j:Nat} {x:denL fs} {d:Dyn} (h:getP [j] (.st fs) x=some d):getF fs j x=some d:=by
  simp only [getP] at h
  split at h
  · rename_i d' hd
    rw [hd]
    have:getP [] d'.τ d'.x=some d':=by
      obtain ⟨τ,y⟩:=d'
      cases τ <;> rfl
    exact this.symm.trans h
  · cases h
theorem rangeAt_cut {w:World} {b o:Nat} {cs:List Value} (h:w.rangeAt b o cs) (k n:Nat):w.rangeAt b (o+k) (cut cs k n):=fun j v hv=>by
  rw [getElem?_cut] at hv
  split at hv
  · have:=h (k+j) v hv
    rw [show o+(k+j)=o+k+j by omega] at this
    exact this
  · cases hv
theorem extract_cut (cs:Array Value) (o n:Nat):(cs.extract o (o+n))=(cut cs.toList o n).toArray:=by
  apply Array.ext'
  rw [Array.toList_extract]
  simp [cut]
section
variable {P:Program} {o:Oper} {a:Act} {w:World} {B:Nat} {w0:Start} {A:Nat→Prop} {ρ:Refs} {own:Nat→Option Nat} {h:Nat→Obj} {s:Nat→SV}
theorem cells_one {τ:Ty} {x:den τ} {ov:Ov} {cs:List Value} (hr:RepC A ρ w τ x ov cs) (ha:isAg τ=false):∃ v,cs=[v]:=by
  have:=RepC.length τ hr
  have h1:tsize τ=1:=by cases τ <;> simp [isAg] at ha <;> rfl
  rw [h1] at this
  match cs,this with
  | [v],_=>exact ⟨v,rfl⟩
theorem run_part {τ:Ty} {t:TypeId} {cs:Array Value} {off:Nat} {x:den τ} {ov:Ov} (hd:descOk P τ t=true) (hz:sizeIs P t (tsize τ)=true)
    (hr:RepC A ρ w τ x ov (cut cs.toList off (tsize τ))):(part t cs off).run P w=.ok (mkV τ (cut cs.toList off (tsize τ))) w:=by
  obtain ⟨d,h1,h2⟩:=descOk_desc hd
  unfold part
  rw [Sem.run_bind,run_isAgg' h1 w,Result.andThen_ok,h2]
  cases ha:isAg τ with
  | true =>
    simp only [if_true,Sem.run_bind,run_sizeOf' hz,Result.andThen_ok,Sem.run_pure,mkV,ha,extract_cut]
  | false =>
    obtain ⟨v,hv⟩:=cells_one hr ha
    have h3:(cut cs.toList off (tsize τ))[0]?=some v:=by rw [hv]; rfl
    rw [getElem?_cut] at h3
    split at h3
    · simp only [Nat.add_zero,Array.getElem?_toList] at h3
      simp [h3,mkV,ha,hv]
    · cases h3
def chkField (P:Program) (o:Oper) (τ:Ty) (j:Nat) (x:Opd):Bool:=match o.op with
  | .field T y i=>Nat.beq i j && descOk P τ T && (match τ with | .st _=>true | _=>false) && chkOpd x y
  | _=>false
theorem good_field (st:St B w0 A ρ own w h) (hs:SlotsOk A ρ w s a) {τ:Ty} {j:Nat} {x:Opd} (hc:chkField P o τ j x=true) {y:den τ} {ov:Ov} (hx:evO s x=.dat τ y ov)
    {d:Dyn} (hg:getP [j] τ y=some d):OpGood P o a w B w0 A ρ (.dat d.τ d.x (ovSub [j] ov)) h:=by
  unfold chkField at hc
  split at hc
  · rename_i T z i ho
    simp only [Bool.and_eq_true] at hc
    obtain ⟨⟨⟨hi,hd⟩,hst⟩,hxz⟩:=hc
    have hi:=Nat.eq_of_beq_eq_true hi
    subst hi
    cases τ with
    | st fs =>
      have k1:=opd_ok hs hxz
      rw [hx] at k1
      simp only [RepV] at k1
      obtain ⟨cs,k1,k2⟩:=k1
      simp only [mkV,isAg] at k2
      have hf:=getP_one hg
      have hty:=getF_type fs i y d hf
      have hlt:i<fs.length:=(List.getElem?_eq_some_iff.1 hty).1
      simp only [descOk] at hd
      cases hu:P.underlying T with
      | none=>simp [hu] at hd
      | some dd =>
        cases dd with
        | struct l =>
          simp only [hu] at hd
          obtain ⟨f,t,m1,m2,m3,m4,m5,m6,m7⟩:=fieldsOk_get fs l.toList 0 i hd hlt
          rw [hty] at m2
          cases m2
          have hp:=RepC.getP (.st fs) [i] k1 (by simpa only [okP] using m7) hg
          have m1':l[i]?=some f:=by rw [← Array.getElem?_toList]; exact m1
          have hoff:f.offset=offP (.st fs) [i]:=by rw [m3,Nat.zero_add]; rfl
          rw [← hoff] at hp
          have hpart:=run_part (P:=P) (cs:=cs.toArray) (off:=f.offset) m6 m4 (by simpa using hp)
          refine OpGood.pure st (v':=mkV d.τ (cut cs f.offset (tsize d.τ))) ?_ (by simp only [RepV]; exact ⟨_,hp,rfl⟩)
          simp only [execOp,ho,k2,Instr.field,Sem.run_bind,run_underlying hu w,Result.andThen_ok,m1',asAgg,Sem.run_pure,hpart]
        | _=>simp [hu] at hd
    | _=>simp at hst
  · cases hc
end
end Go.Proofs.YtjobjooccgledaaDoor.Ghost
namespace Go.Proofs.YtjobjooccgledaaDoor.Ghost
open Go
section
variable {P:Program} {o:Oper} {a:Act} {w:World} {B:Nat} {w0:Start} {A:Nat→Prop} {ρ:Refs} {own:Nat→Option Nat} {h:Nat→Obj} {s:Nat→SV}
def sizesOkF (P:Program):List Nat→Nat→List Field→Bool
  | [],_,[]=>true
  | n :: r,o,f :: s=>Nat.beq f.offset o && sizeIs P f.type n && Nat.blt 0 n && sizesOkF P r (o+n) s
  | _,_,_=>false
def ftOk (P:Program):FT→TypeId→Bool
  | .d (.st fs),t=>descOk P (.st fs) t
  | .d _,_=>false
  | .v sizes,t=>(match P.underlying t with | some (.struct l)=>sizesOkF P sizes 0 l.toList | _=>false)
def chkFieldAddr (P:Program) (o:Oper) (t:FT) (j:Nat) (x:Opd):Bool:=match o.op with
  | .fieldAddr T y i=>Nat.beq i j && ftOk P t T && chkOpd x y
  | _=>false
def sumTo:List Nat→Nat→Nat
  | [],_=>0
  | _ :: _,0=>0
  | n :: r,j+1=>n+sumTo r j
theorem sizesOkF_get:(sizes:List Nat)→(l:List Field)→(o j:Nat)→sizesOkF P sizes o l=true→j<sizes.length →
    ∃ f n,l[j]?=some f∧f.offset=o+sumTo sizes j∧sizeIs P f.type n=true∧0<n
  | [],_,_,_,_,hj=>by simp at hj
  | _ :: _,[],_,_,h,_=>by simp [sizesOkF] at h
  | n :: r,f :: s,o,0,h,_=>by
    simp only [sizesOkF,Bool.and_eq_true] at h
    exact ⟨f,n,rfl,by rw [show sumTo (n :: r) 0=0 from rfl,Nat.add_zero]; exact Nat.eq_of_beq_eq_true h.1.1.1,h.1.1.2,by simpa [Nat.blt_eq] using h.1.2⟩
  | n :: r,f :: s,o,j+1,h,hj=>by
    simp only [sizesOkF,Bool.and_eq_true] at h
    obtain ⟨f',n',h1,h2,h3⟩:=sizesOkF_get r s (o+n) j h.2 (by simpa using hj)
    exact ⟨f',n',by simpa using h1,by simp only [sumTo]; omega,h3⟩
theorem run_fieldAt {T:TypeId} {l:Array Field} {i:Nat} {f:Field} {n b k:Nat} (hu:P.underlying T=some (.struct l)) (hf:l[i]?=some f) (hn:sizeIs P f.type n=true) (hp:0<n) :
    (Instr.fieldAt T (.pointer (some ⟨b,k,none⟩)) i).run P w=.ok (.pointer (some ⟨b,k+f.offset,none⟩)) w:=by
  have:n≠0:=by omega
  simp only [Instr.fieldAt,Sem.run_bind,run_underlying hu w,Result.andThen_ok,hf,Instr.sureAddr,Sem.run_pure,fieldPlace,run_sizeOf' hn,this,if_false,Addr.add_mid]
theorem natsEq_eq:{a b:List Nat}→fieldAG.natsEq a b=true→a=b
  | [],[],_=>rfl
  | x :: r,y :: s,h=>by
    simp only [fieldAG.natsEq,Bool.and_eq_true] at h
    rw [Nat.eq_of_beq_eq_true h.1,natsEq_eq h.2]
theorem length_sizesV:(us:List SV)→(fieldAG.sizesV us).length=us.length
  | []=>rfl
  | _ :: r=>by simp [fieldAG.sizesV,length_sizesV r]
theorem offVL_sum:(us:List SV)→(j:Nat)→offVL us j []=sumTo (fieldAG.sizesV us) j
  | [],_=>rfl
  | u :: r,0=>by
    have:offV u []=0:=by cases u <;> rfl
    simp only [offVL,this,fieldAG.sizesV,sumTo]
  | u :: r,j+1=>by simp only [offVL,fieldAG.sizesV,sumTo,offVL_sum r j]
theorem getVL_nil:(us:List SV)→(j:Nat)→getV.getVL us j []=us[j]?
  | [],_=>by simp [getV.getVL]
  | u :: r,0=>by cases u <;> simp [getV.getVL,getV]
  | u :: r,j+1=>by simp only [getV.getVL,getVL_nil r j]; simp
mutual
theorem getV_append:(u:SV)→(p q:Path)→(x:SV)→getV u p=some x→getV u (p ++ q)=getV x q∧offV u (p ++ q)=offV u p+offV x q
  | u,[],q,x,hg=>by
    have:u=x:=by cases u <;> simpa [getV] using hg
    subst this
    have:offV u []=0:=by cases u <;> rfl
    exact ⟨rfl,by rw [this,Nat.zero_add]; rfl⟩
  | .agv us,i :: p,q,x,hg=>by
    simp only [getV] at hg
    have:=getVL_append us i p q x hg
    simpa only [List.cons_append,getV,offV] using this
  | .dat _ _ _,_ :: _,_,_,hg=>by simp [getV] at hg
  | .ptr _ _,_ :: _,_,_,hg=>by simp [getV] at hg
  | .ref _ _,_ :: _,_,_,hg=>by simp [getV] at hg
  | .refv _,_ :: _,_,_,hg=>by simp [getV] at hg
  | .selfc _ _,_ :: _,_,_,hg=>by simp [getV] at hg
  | .glo _,_ :: _,_,_,hg=>by simp [getV] at hg
  | .elp _ _ _,_ :: _,_,_,hg=>by simp [getV] at hg
  | .clo _ _,_ :: _,_,_,hg=>by simp [getV] at hg
  | .tup _,_ :: _,_,_,hg=>by simp [getV] at hg
  | .slv _,_ :: _,_,_,hg=>by simp [getV] at hg
  | .fmap _ _,_ :: _,_,_,hg=>by simp [getV] at hg
  | .nilfn,_ :: _,_,_,hg=>by simp [getV] at hg
  | .und,_ :: _,_,_,hg=>by simp [getV] at hg
  | .junk,_ :: _,_,_,hg=>by simp [getV] at hg
theorem getVL_append:(us:List SV)→(i:Nat)→(p q:Path)→(x:SV)→getV.getVL us i p=some x→getV.getVL us i (p ++ q)=getV x q∧offVL us i (p ++ q)=offVL us i p+offV x q
  | [],_,_,_,_,hg=>by simp [getV.getVL] at hg
  | u :: r,0,p,q,x,hg=>by
    simp only [getV.getVL] at hg
    simpa only [getV.getVL,offVL] using getV_append u p q x hg
  | u :: r,n+1,p,q,x,hg=>by
    simp only [getV.getVL] at hg
    have:=getVL_append r n p q x hg
    simp only [getV.getVL,offVL]
    exact ⟨this.1,by rw [this.2]; omega⟩
end
theorem repV_ptr {g:Nat} {p:Path} {v:Value} {sp:Spot} (hv:RepV A ρ w (.ptr g p) v) (hr:ρ g=some sp) (hm:sp.mp=false):sp.ok p∧v=.pointer (some ⟨sp.b,sp.off p,none⟩):=by
  simp only [RepV] at hv
  obtain ⟨s',h1,h2,h3⟩:=hv
  rw [hr] at h1
  cases h1
  rw [hm] at h3
  exact ⟨h2,h3⟩
theorem mk_ptr {g:Nat} {p:Path} {sp:Spot} (hr:ρ g=some sp) (hm:sp.mp=false) (hk:sp.ok p):RepV A ρ w (.ptr g p) (.pointer (some ⟨sp.b,sp.off p,none⟩)):=by
  simp only [RepV]
  exact ⟨sp,hr,hk,by rw [hm]⟩
theorem repV_elp {g i:Nat} {p:Path} {v:Value} {sp:Spot} (hv:RepV A ρ w (.elp g i p) v) (hr:ρ g=some sp):i<sp.len∧sp.ok p∧v=.pointer (some ⟨sp.b,i * sp.es+sp.off p,none⟩):=by
  simp only [RepV] at hv
  obtain ⟨s',h1,_,h2,h3,h4⟩:=hv
  rw [hr] at h1
  cases h1
  exact ⟨h2,h3,h4⟩
variable (st:St B w0 A ρ own w h) (hs:SlotsOk A ρ w s a)
include st hs
theorem good_fieldAddr {t:FT} {j:Nat} {x:Opd} (hc:chkFieldAddr P o t j x=true) {R:Type} {K:SV→Option R} {r:R} (hg:fieldAG h t j (evO s x) K=some r) :
    ∃ v,K v=some r∧OpGood P o a w B w0 A ρ v h:=by
  unfold chkFieldAddr at hc
  split at hc
  case h_2=>cases hc
  rename_i T y i ho
  simp only [Bool.and_eq_true] at hc
  obtain ⟨⟨hi,hT⟩,hxy⟩:=hc
  have hi:=Nat.eq_of_beq_eq_true hi
  subst hi
  have k1:=opd_ok hs hxy
  have fin:∀ (l:Array Field) (f:Field) (n b k:Nat) (v:SV),P.underlying T=some (.struct l)→l[i]?=some f→sizeIs P f.type n=true→0<n→a.eval y=.pointer (some ⟨b,k,none⟩) →
      RepV A ρ w v (.pointer (some ⟨b,k+f.offset,none⟩))→OpGood P o a w B w0 A ρ v h:=fun l f n b k v h1 h2 h3 h4 h5 h6 =>
    OpGood.pure st (by simp only [execOp,ho,h5,Sem.run_bind,run_fieldAt h1 h2 h3 h4,Result.andThen_ok,Sem.run_pure]) h6
  unfold fieldAG at hg
  cases t with
  | d σ =>
    cases σ with
    | st fs =>
      simp only [ftOk] at hT
      have hd:=hT
      simp only [descOk] at hT
      cases hu:P.underlying T with
      | none=>simp [hu] at hT
      | some dd =>
        cases dd with
        | struct l =>
          simp only [hu] at hT
          simp only [] at hg
          cases hj:Nat.blt i fs.length with
          | false=>rw [hj] at hg; simp at hg
          | true =>
            rw [hj] at hg
            simp only [cond_true] at hg
            obtain ⟨f,t,m1,m2,m3,m4,m5,m6,m7⟩:=fieldsOk_get fs l.toList 0 i hT (by simpa [Nat.blt_eq] using hj)
            have m1':l[i]?=some f:=by rw [← Array.getElem?_toList]; exact m1
            have hoff:f.offset=offP (.st fs) [i]:=by rw [m3,Nat.zero_add]; rfl
            have hok:okP (.st fs) [i]:=by simpa only [okP] using m7
            have box:∀ (g:Nat) (p:Path) (τ:Ty) (z:den τ) (ov:Ov) (M:Spot→List Value→Prop),evO s x=.ptr g p→RepBox A ρ w g τ z ov M →
                fieldAG.fld τ z p (.st fs) (K (.ptr g (p ++ [i])))=some r→∃ v,K v=some r∧OpGood P o a w B w0 A ρ v h:=fun g p τ z ov M hx hb hf=>by
              obtain ⟨sp,cs,n1,n2,n3,n4,_,_⟩:=hb
              rw [hx] at k1
              obtain ⟨q1,q2⟩:=repV_ptr k1 n1 n2
              rw [n4] at q1
              unfold fieldAG.fld at hf
              split at hf
              · rename_i d hd'
                split at hf
                · rename_i pl _
                  obtain ⟨dτ,dx⟩:=d
                  have hdt:dτ=.st fs:=pl.down
                  subst hdt
                  have:=okP_append τ p [i] z ⟨.st fs,dx⟩ q1 hd' hok
                  refine ⟨_,hf,fin l f _ _ _ _ hu m1' m4 m5 q2 ?_⟩
                  have e:sp.off p+f.offset=sp.off (p ++ [i]):=by rw [n3,this.2,hoff]
                  rw [e]
                  exact mk_ptr n1 n2 (by rw [n4]; exact this.1)
                · cases hf
              · cases hf
            have arr:∀ (g k:Nat) (p:Path) (e:Ty) (z:List (den e)) (M:Spot→List Value→Prop),evO s x=.elp g k p→RepArr A ρ w g e z M →
                fieldAG.fld e (dft e) p (.st fs) (K (.elp g k (p ++ [i])))=some r→∃ v,K v=some r∧OpGood P o a w B w0 A ρ v h:=fun g k p e z M hx hb hf=>by
              obtain ⟨sp,n1,n2,n3,n4,n5,n6,_⟩:=hb
              rw [hx] at k1
              obtain ⟨q0,q1,q2⟩:=repV_elp k1 n1
              rw [n6] at q1
              unfold fieldAG.fld at hf
              split at hf
              · rename_i d hd'
                split at hf
                · rename_i pl _
                  obtain ⟨dτ,dx⟩:=d
                  have hdt:dτ=.st fs:=pl.down
                  subst hdt
                  have:=okP_append e p [i] (dft e) ⟨.st fs,dx⟩ q1 hd' hok
                  refine ⟨_,hf,fin l f _ _ _ _ hu m1' m4 m5 q2 ?_⟩
                  have e':k * sp.es+sp.off p+f.offset=k * sp.es+sp.off (p ++ [i]):=by rw [n5,this.2,hoff]; exact Nat.add_assoc _ _ _
                  rw [e']
                  simp only [RepV]
                  exact ⟨sp,n1,n2,q0,by rw [n6]; exact this.1,rfl⟩
                · cases hf
              · cases hf
            split at hg
            · rename_i g p hx
              have ob:=st.objs g
              split at hg
              · rename_i τ z ov hh; rw [hh] at ob; exact box g p τ z ov _ hx ob hg
              · rename_i τ z ov hh; rw [hh] at ob; exact box g p τ z ov _ hx ob hg
              · cases hg
            · rename_i g k p hx
              have ob:=st.objs g
              split at hg
              · rename_i e z hh; rw [hh] at ob; exact arr g k p e z _ hx ob hg
              · rename_i e z hh; rw [hh] at ob; exact arr g k p e z _ hx ob hg
              · cases hg
            · rename_i τ z hx
              split at hg
              · rename_i pl d _ hd'
                have hτ:τ=.st fs:=pl.down
                subst hτ
                rw [hx] at k1
                simp only [RepV] at k1
                obtain ⟨b,k,cs,q1,q2,q3,q4⟩:=k1
                have hp:=RepC.getP (.st fs) [i] q4 hok hd'
                refine ⟨_,hg,fin l f _ _ _ _ hu m1' m4 m5 q1 ?_⟩
                simp only [RepV]
                refine ⟨b,k+f.offset,_,rfl,q2,?_,RepC.ov d.τ (fun e => ?_) hp⟩
                · rw [hoff]; exact rangeAt_cut q3 _ _
                · obtain ⟨q,oo⟩:=e
                  rw [mem_ovSub]; simp
              · cases hg
            · cases hg
        | _=>simp [hu] at hT
    | _=>simp [ftOk] at hT
  | v sizes =>
    simp only [ftOk] at hT
    simp only [] at hg
    cases hu:P.underlying T with
    | none=>simp [hu] at hT
    | some dd =>
      cases dd with
      | struct l =>
        simp only [hu] at hT
        have boxv:∀ (g:Nat) (p:Path) (u:SV) (M:Spot→List Value→Prop),evO s x=.ptr g p→RepBoxV A ρ w g u M →
            fieldAG.fldV u p sizes i (K (.ptr g (p ++ [i])))=some r→∃ v,K v=some r∧OpGood P o a w B w0 A ρ v h:=fun g p u M hx hb hf=>by
          obtain ⟨sp,v,n1,n2,n3,n4,_⟩:=hb
          rw [hx] at k1
          obtain ⟨q1,q2⟩:=repV_ptr k1 n1 n2
          unfold fieldAG.fldV at hf
          split at hf
          · rename_i us hus
            cases hcc:fieldAG.natsEq (fieldAG.sizesV us) sizes && Nat.blt i sizes.length with
            | false=>rw [hcc] at hf; simp at hf
            | true =>
              rw [hcc] at hf
              simp only [cond_true] at hf
              simp only [Bool.and_eq_true] at hcc
              have he:=natsEq_eq hcc.1
              subst he
              obtain ⟨f,n,m1,m2,m3,m4⟩:=sizesOkF_get _ l.toList 0 i hT (by simpa [Nat.blt_eq] using hcc.2)
              have m1':l[i]?=some f:=by rw [← Array.getElem?_toList]; exact m1
              have happ:=getV_append u p [i] (.agv us) hus
              refine ⟨_,hf,fin l f n _ _ _ hu m1' m3 m4 q2 ?_⟩
              have e':sp.off p+f.offset=sp.off (p ++ [i]):=by
                rw [n3,happ.2,m2,Nat.zero_add]; simp only [offV,offVL_sum]
              rw [e']
              refine mk_ptr n1 n2 ?_
              rw [n4]
              unfold okV
              rw [happ.1]
              simp only [getV,getVL_nil]
              have hlt:i<us.length:=by
                have:=hcc.2
                rw [Nat.blt_eq,length_sizesV] at this
                exact this
              exact ⟨us[i],List.getElem?_eq_getElem hlt⟩
          · cases hf
        split at hg
        · rename_i us hx
          split at hg
          · rename_i u hcc hu'
            have he:=natsEq_eq hcc
            subst he
            have hlt:i<us.length:=(List.getElem?_eq_some_iff.1 hu').1
            obtain ⟨f,n,m1,m2,m3,m4⟩:=sizesOkF_get _ l.toList 0 i hT (by rw [length_sizesV]; exact hlt)
            have m1':l[i]?=some f:=by rw [← Array.getElem?_toList]; exact m1
            rw [hx] at k1
            simp only [RepV] at k1
            obtain ⟨b,k,v,q1,q2,q3,vs,rfl,q4,q5⟩:=k1
            obtain ⟨v',w1,w2⟩:=RepVs.getV us q4 q5 (i:=i) (p:=[]) (x:=u) (by rw [getVL_nil]; exact hu')
            refine ⟨_,hg,fin l f n _ _ _ hu m1' m3 m4 q1 ?_⟩
            simp only [RepV]
            refine ⟨b,k+f.offset,v',rfl,q2,?_,w1⟩
            rw [w2,m2,Nat.zero_add,← offVL_sum]
            exact rangeAt_cut q3 _ _
          · cases hg
        · rename_i g p hx
          have ob:=st.objs g
          split at hg
          · rename_i u hh; rw [hh] at ob; exact boxv g p u _ hx ob hg
          · rename_i u hh; rw [hh] at ob; exact boxv g p u _ hx ob hg
          · cases hg
        · cases hg
      | _=>simp [hu] at hT
end
end Go.Proofs.YtjobjooccgledaaDoor.Ghost
namespace Go.Proofs.YtjobjooccgledaaDoor.Ghost
open Go
section
variable {P:Program} {o:Oper} {a:Act} {w:World} {B:Nat} {w0:Start} {A:Nat→Prop} {ρ:Refs} {own:Nat→Option Nat} {h:Nat→Obj} {s:Nat→SV}
theorem inB_spec {R:Type} {n:Int} {m:Nat} {K:Nat→Option R} {r:R} (hg:inB n m K=some r):0≤n∧n<(m:Int)∧K n.toNat=some r:=by
  unfold inB at hg
  split at hg
  · rename_i hn; exact ⟨hn.1,hn.2,hg⟩
  · cases hg
def itOk (P:Program):IT→TypeId→Bool
  | .sl e,t=>descOk P (.sl e) t
  | .arr n e,t=>descOk P (.arr n e) t
  | .slv n,t=>(match P.underlying t with | some (.slice e)=>sizeIs P e n | _=>false)
def chkIndex (P:Program) (o:Oper) (t:IT) (x i:Opd):Bool:=match o.op with
  | .indexAddr T y z=>itOk P t T && chkOpd x y && chkOpd i z
  | _=>false
theorem run_indexAt_sl {T e:TypeId} {sz b k len cap:Nat} {kd:IntKind} {n:Int} (hu:P.underlying T=some (.slice e)) (hz:sizeIs P e sz=true) (h0:0≤n) (h1:n<(len:Int)) :
    (Instr.indexAt T (.slice (some ⟨b,k,none⟩) len cap) (.int kd n)).run P w=.ok (.pointer (some ⟨b,k+n.toNat * sz,none⟩)) w:=by
  simp only [Instr.indexAt,asIntOf,Sem.run_bind,Sem.run_pure,Result.andThen_ok,run_underlying hu w,h0,h1,and_self,if_true,run_sizeOf' hz,Addr.add_mid]
theorem run_indexAt_arr {T e:TypeId} {sz b k len:Nat} {kd:IntKind} {n:Int} (hu:P.underlying T=some (.array len e)) (hz:sizeIs P e sz=true) (h0:0≤n) (h1:n<(len:Int)) :
    (Instr.indexAt T (.pointer (some ⟨b,k,none⟩)) (.int kd n)).run P w=.ok (.pointer (some ⟨b,k+n.toNat * sz,none⟩)) w:=by
  simp only [Instr.indexAt,asIntOf,Instr.sureAddr,Sem.run_bind,Sem.run_pure,Result.andThen_ok,run_underlying hu w,h0,h1,and_self,if_true,run_sizeOf' hz,Addr.add_mid]
theorem descOk_sl {e:Ty} {t:TypeId} (hd:descOk P (.sl e) t=true):∃ e',P.underlying t=some (.slice e')∧descOk P e e'=true∧sizeIs P e' (tsize e)=true∧0<tsize e:=by
  simp only [descOk] at hd
  split at hd
  · rename_i e' he
    simp only [Bool.and_eq_true] at hd
    exact ⟨e',he,hd.1.1,hd.1.2,by simpa [Nat.blt_eq] using hd.2⟩
  · cases hd
theorem descOk_arr {n:Nat} {e:Ty} {t:TypeId} (hd:descOk P (.arr n e) t=true):∃ e',P.underlying t=some (.array n e')∧descOk P e e'=true∧sizeIs P e' (tsize e)=true∧0<tsize e:=by
  simp only [descOk] at hd
  split at hd
  · rename_i n' e' he
    simp only [Bool.and_eq_true] at hd
    have:=Nat.eq_of_beq_eq_true hd.1.1.1
    subst this
    exact ⟨e',he,hd.1.1.2,hd.1.2,by simpa [Nat.blt_eq] using hd.2⟩
  · cases hd
theorem sumTo_same {z:Nat}:(us:List SV)→(j:Nat)→(∀ u,u∈us→svSize u=z)→j≤us.length→sumTo (fieldAG.sizesV us) j=j * z
  | [],j,_,hj=>by simp at hj; subst hj; simp [fieldAG.sizesV,sumTo]
  | u :: r,0,_,_=>by simp [fieldAG.sizesV,sumTo]
  | u :: r,j+1,h,hj=>by
    simp only [fieldAG.sizesV,sumTo,sumTo_same r j (fun u hu=>h u (by simp [hu])) (by simpa using hj),h u (by simp),Nat.add_mul,Nat.one_mul]
    omega
variable (st:St B w0 A ρ own w h) (hs:SlotsOk A ρ w s a)
include st hs
theorem good_index {t:IT} {x i:Opd} (hc:chkIndex P o t x i=true) {R:Type} {K:SV→Option R} {r:R} (hg:indexG t h (evO s x) (evO s i) K=some r) :
    ∃ v,K v=some r∧OpGood P o a w B w0 A ρ v h:=by
  unfold chkIndex at hc
  split at hc
  case h_2=>cases hc
  rename_i T y z ho
  simp only [Bool.and_eq_true] at hc
  obtain ⟨⟨hT,hx⟩,hi⟩:=hc
  have k1:=opd_ok hs hx
  have k2:=opd_ok hs hi
  have fin:∀ (v':Value) (v:SV),(Instr.indexAt T (a.eval y) (a.eval z)).run P w=.ok v' w→RepV A ρ w v v'→OpGood P o a w B w0 A ρ v h:=fun v' v h1 h2 =>
    OpGood.pure st (by simp only [execOp,ho,Sem.run_bind,h1,Result.andThen_ok,Sem.run_pure]) h2
  unfold indexG at hg
  split at hg
  case h_2=>cases hg
  rename_i kd n ovi hin
  rw [hin] at k2
  have k2:=repV_int k2
  rw [k2] at fin
  cases t with
  | sl σ =>
    simp only [itOk] at hT
    obtain ⟨e',u1,u2,u3,u4⟩:=descOk_sl hT
    simp only [] at hg
    have own:∀ (e:Ty) (l0:List (den e)) (g:Nat) (e1:Ty) (l:List (den e1)) (M:Spot→List Value→Prop),evO s x=.dat (.sl e) l0 [([],some g)]→RepArr A ρ w g e1 l M →
        (match tyEq e1 σ with | some _=>inB n l.length fun j=>K (.elp g j []) | none=>none)=some r→∃ v,K v=some r∧OpGood P o a w B w0 A ρ v h:=fun e l0 g e1 l M hx' hb hf=>by
      obtain ⟨sp,n1,n2,n3,n4,n5,n6,n7,n8,n9⟩:=hb
      rw [hx'] at k1
      simp only [RepV,RepC] at k1
      obtain ⟨cs,⟨ad,len,cap,rfl,q2,_⟩,hv⟩:=k1
      obtain ⟨sp',ad',w1,_,w2,w3⟩:=q2 g (by simp)
      rw [n1] at w1
      cases w1
      cases w2
      split at hf
      · rename_i pl _
        have:=pl.down
        subst this
        obtain ⟨i0,i1,i2⟩:=inB_spec hf
        rw [n7] at i1
        have hcap:0<sp.cap:=by omega
        have:=w3 hcap
        subst this
        refine ⟨_,i2,fin _ _ (by rw [hv]; exact run_indexAt_sl u1 u3 i0 i1) ?_⟩
        simp only [RepV]
        refine ⟨sp,n1,n2,by omega,by rw [n6]; cases e1 <;> trivial,?_⟩
        have h0:offP e1 []=0:=by cases e1 <;> rfl
        rw [n5,h0,n3,Nat.zero_add,Nat.add_zero]
      · cases hf
    split at hg
    · rename_i e l hx'
      rw [hx'] at k1
      simp only [RepV,RepC] at k1
      obtain ⟨cs,⟨ad,len,cap,rfl,_,q3⟩,hv⟩:=k1
      split at hg
      · rename_i pl _
        have:=pl.down
        subst this
        obtain ⟨i0,i1,i2⟩:=inB_spec hg
        obtain ⟨q4,q5⟩:=q3 (by simp)
        subst q4
        obtain ⟨b,k,ds,rfl,w1,w2,w3,w4⟩:=q5.2 (by omega)
        refine ⟨_,i2,fin _ _ (by rw [hv]; exact run_indexAt_sl u1 u3 i0 i1) ?_⟩
        simp only [RepV]
        exact ⟨b,_,_,rfl,w1,rangeAt_cut w2 _ _,w4 n.toNat (by omega)⟩
      · cases hg
    · rename_i e l0 g hx'
      have ob:=st.objs g
      split at hg
      · rename_i e1 l hh; rw [hh] at ob; exact own e l0 g e1 l _ hx' ob hg
      · rename_i e1 l hh; rw [hh] at ob; exact own e l0 g e1 l _ hx' ob hg
      · cases hg
    · cases hg
  | arr M σ =>
    simp only [itOk] at hT
    obtain ⟨e',u1,u2,u3,u4⟩:=descOk_arr hT
    simp only [] at hg
    have box:∀ (g:Nat) (p:Path) (τ:Ty) (q:den τ) (ov:Ov) (M':Spot→List Value→Prop),evO s x=.ptr g p→RepBox A ρ w g τ q ov M' →
        indexG.arrAt τ q p M σ n (fun j=>K (.ptr g (p ++ [j])))=some r→∃ v,K v=some r∧OpGood P o a w B w0 A ρ v h:=fun g p τ q ov M' hx' hb hf=>by
      obtain ⟨sp,cs,n1,n2,n3,n4,_,_⟩:=hb
      rw [hx'] at k1
      obtain ⟨q1,q2⟩:=repV_ptr k1 n1 n2
      rw [n4] at q1
      unfold indexG.arrAt at hf
      split at hf
      · rename_i N e dx hd'
        split at hf
        · rename_i pl _ hN
          have:=pl.down
          subst this
          have hN:=Nat.eq_of_beq_eq_true hN
          subst hN
          obtain ⟨i0,i1,i2⟩:=inB_spec hf
          have hlt:n.toNat<N:=by omega
          have h0:offP e []=0:=by cases e <;> rfl
          have:=okP_append τ p [n.toNat] q ⟨.arr N e,dx⟩ q1 hd' ⟨hlt,by cases e <;> trivial⟩
          refine ⟨_,i2,fin _ _ (by rw [q2]; exact run_indexAt_arr u1 u3 i0 i1) ?_⟩
          have e':sp.off p+n.toNat * tsize e=sp.off (p ++ [n.toNat]):=by
            rw [n3,this.2]; simp only [offP,h0,Nat.add_zero]
          rw [e']
          exact mk_ptr n1 n2 (by rw [n4]; exact this.1)
        · cases hf
      · cases hf
    split at hg
    · rename_i N e l hx'
      split at hg
      · rename_i pl _ hN
        have:=pl.down
        subst this
        have hN:=Nat.eq_of_beq_eq_true hN
        subst hN
        obtain ⟨i0,i1,i2⟩:=inB_spec hg
        rw [hx'] at k1
        simp only [RepV,RepC] at k1
        obtain ⟨b,k,cs,q1,q2,q3,q4,q5,q6⟩:=k1
        have hlt:n.toNat<N:=by omega
        refine ⟨_,i2,fin _ _ (by rw [q1]; exact run_indexAt_arr u1 u3 i0 i1) ?_⟩
        simp only [RepV]
        exact ⟨b,_,_,rfl,q2,rangeAt_cut q3 _ _,q6 n.toNat hlt⟩
      · cases hg
    · rename_i g p hx'
      have ob:=st.objs g
      split at hg
      · rename_i τ q ov hh; rw [hh] at ob; exact box g p τ q ov _ hx' ob hg
      · rename_i τ q ov hh; rw [hh] at ob; exact box g p τ q ov _ hx' ob hg
      · cases hg
    · cases hg
  | slv sz =>
    simp only [itOk] at hT
    simp only [] at hg
    cases hu:P.underlying T with
    | none=>simp [hu] at hT
    | some dd =>
      cases dd with
      | slice e' =>
        simp only [hu] at hT
        split at hg
        · rename_i us hx'
          split at hg
          · rename_i j _
            split at hg
            · rename_i u hu'
              split at hg
              · rename_i hsz
                have hsz:=Nat.eq_of_beq_eq_true hsz
                rw [hx'] at k1
                simp only [RepV] at k1
                obtain ⟨ad,len,cap,q1,q2,vs,q3,q4,⟨zz,q5⟩,q6⟩:=k1
                have hlt:j<us.length:=(List.getElem?_eq_some_iff.1 hu').1
                obtain ⟨b,k,rfl,w1,w2⟩:=q6 (by omega)
                have hzz:zz=sz:=by rw [← q5 u (List.mem_of_getElem? hu')]; exact hsz
                subst hzz
                obtain ⟨v',v1,v2⟩:=RepVs.getV us q3 q4 (i:=j) (p:=[]) (x:=u) (by rw [getVL_nil]; exact hu')
                refine ⟨_,hg,fin _ _ (by rw [q1]; exact run_indexAt_sl (n:=(j:Int)) hu hT (by omega) (by omega)) ?_⟩
                simp only [RepV]
                refine ⟨b,_,v',rfl,w1,?_,v1⟩
                rw [v2,offVL_sum,sumTo_same us j q5 (by omega)]
                exact rangeAt_cut w2 _ _
              · cases hg
            · cases hg
          · cases hg
        · cases hg
      | _=>simp [hu] at hT
end
end Go.Proofs.YtjobjooccgledaaDoor.Ghost
