/- Code, functions and calls do what the ghost's do. Conditions: none. -/
import Derived.Test.YtjobjooccgledaaDoorA3
import Derived.LoopN
import Derived.Laws.Sem
import Derived.Deep.Slices
import Derived.OpenShut
import Derived.WideShapes
import Derived.KernelRfl
set_option linter.unusedVariables false
set_option linter.unusedSimpArgs false
set_option linter.unusedSectionVars false
set_option linter.unnecessarySimpa false
namespace Go.Proofs.YtjobjooccgledaaDoor.Ghost
open Go
section
variable {R:Type}
theorem subD_bind {τ:Ty} {x:den τ} {ov:Ov} {p:Path} {K:SV→Option R}:subD τ x ov p K=(subD τ x ov p some).bind K:=by
  unfold subD; split <;> rfl
theorem loadG_bind {h:Nat→Obj} {a:SV} {K:SV→Option R}:loadG h a K=(loadG h a some).bind K:=by
  unfold loadG
  split
  · rfl
  · rfl
  · rfl
  · split
    · rfl
    · split <;> rfl
  · split
    · exact subD_bind
    · exact subD_bind
    · split <;> rfl
    · split <;> rfl
    · rfl
  · split
    · exact subD_bind
    · exact subD_bind
    · rfl
  · rfl
theorem loadT_bind {t:LT} {h:Nat→Obj} {a:SV} {K:SV→Option R}:loadT t h a K=(loadT t h a some).bind K:=by
  unfold loadT
  refine loadG_bind.trans (Eq.symm ((congrArg (fun o=>Option.bind o K) loadG_bind).trans ?_))
  cases loadG h a some with
  | none=>rfl
  | some v=>simp only [Option.bind_some]; split <;> rfl
theorem storeG_bind {h:Nat→Obj} {a v:SV} {K:Eff→Option R}:storeG h a v K=(storeG h a v some).bind K:=by
  unfold storeG
  repeat' split
  all_goals first | rfl | (simp only [Option.bind_some,Option.bind_none]; done) | simp_all
theorem inB_bind {n:Int} {m:Nat} {K:Nat→Option R}:inB n m K=(inB n m some).bind K:=by
  unfold inB; split <;> rfl
theorem inB_bind2 {S:Type} {n:Int} {m:Nat} {f:Nat→S} {K:S→Option R}:inB n m (fun j=>K (f j))=(inB n m fun j=>some (f j)).bind K:=by
  unfold inB; split <;> rfl
theorem fld_bind {τ:Ty} {x:den τ} {p:Path} {σ:Ty} {v:SV} {K:SV→Option R}:fieldAG.fld τ x p σ (K v)=(fieldAG.fld τ x p σ (some v)).bind K:=by
  unfold fieldAG.fld
  repeat' split
  all_goals rfl
theorem fldV_bind {u:SV} {p:Path} {sizes:List Nat} {j:Nat} {v:SV} {K:SV→Option R}:fieldAG.fldV u p sizes j (K v)=(fieldAG.fldV u p sizes j (some v)).bind K:=by
  unfold fieldAG.fldV
  split
  · cases fieldAG.natsEq (fieldAG.sizesV _) sizes && Nat.blt j sizes.length <;> rfl
  · rfl
theorem fieldAG_bind {h:Nat→Obj} {t:FT} {j:Nat} {a:SV} {K:SV→Option R}:fieldAG h t j a K=(fieldAG h t j a some).bind K:=by
  unfold fieldAG
  cases t with
  | d σ =>
    cases σ with
    | st fs =>
      simp only []
      cases Nat.blt j fs.length with
      | false=>rfl
      | true =>
        simp only [cond_true]
        cases a with
        | ptr g p=>simp only []; split <;> first | exact fld_bind | rfl
        | elp g i p=>simp only []; split <;> first | exact fld_bind | rfl
        | ref τ x=>simp only []; split <;> rfl
        | _=>rfl
    | _=>rfl
  | v sizes =>
    simp only []
    split
    · split <;> rfl
    · split <;> first | exact fldV_bind | rfl
    · rfl
theorem arrAt_bind {τ:Ty} {x:den τ} {p:Path} {M:Nat} {σ:Ty} {n:Int} {f:Nat→SV} {K:SV→Option R}:indexG.arrAt τ x p M σ n (fun j=>K (f j))=(indexG.arrAt τ x p M σ n fun j=>some (f j)).bind K:=by
  unfold indexG.arrAt
  repeat' split
  all_goals first | exact inB_bind2 | rfl
theorem indexG_bind {t:IT} {h:Nat→Obj} {x i:SV} {K:SV→Option R}:indexG t h x i K=(indexG t h x i some).bind K:=by
  unfold indexG
  split
  · cases t with
    | sl σ =>
      simp only []
      split
      · split <;> first | exact inB_bind2 | rfl
      · split
        · split <;> first | exact inB_bind2 | rfl
        · split <;> first | exact inB_bind2 | rfl
        · rfl
      · rfl
    | arr M σ =>
      simp only []
      split
      · split <;> first | exact inB_bind2 | rfl
      · split
        · exact arrAt_bind
        · exact arrAt_bind
        · rfl
      · rfl
    | slv sz =>
      simp only []
      repeat' split
      all_goals rfl
  · rfl
theorem lenG_bind {h:Nat→Obj} {x:SV} {K:SV→Option R}:lenG h x K=(lenG h x some).bind K:=by
  unfold lenG
  repeat' split
  all_goals rfl
theorem binInt_bind {op:BinOp} {k:IntKind} {x y:Int} {K:SV→Option R}:binInt op k x y K=(binInt op k x y some).bind K:=by
  unfold binInt
  cases op <;> simp only [] <;> first | rfl | (split <;> rfl)
theorem binG_bind {op:BinOp} {a b:SV} {K:SV→Option R}:binG op a b K=(binG op a b some).bind K:=by
  unfold binG
  repeat' split
  all_goals first | exact binInt_bind | rfl
theorem eqsG_bind {τ:Ty} {neg:Bool} {a b:SV} {K:SV→Option R}:eqsG τ neg a b K=(eqsG τ neg a b some).bind K:=by
  unfold eqsG
  repeat' split
  all_goals rfl
theorem buildG_bind {τ:Ty} {s:Nat→SV} {K:SV→Option R}:(parts:List (Nat×Opd))→{x:den τ}→{ov:Ov}→buildG τ s x ov parts K=(buildG τ s x ov parts some).bind K
  | [],_,_=>rfl
  | (j,o) :: r,x,ov=>by
    simp only [buildG]
    repeat' split
    all_goals first | exact buildG_bind r | rfl
theorem callK_bind {h:Nat→Obj} {ids:List Nat} {res:List Sh} {x:dShL res} {keep:Keys} {K:SV→Eff→Option R}:callK h ids res x keep K=(callK h ids res x keep fun v e=>some (v,e)).bind fun p=>K p.1 p.2:=by
  unfold callK
  have key:∀ fz:Option Eff,(match fz with | some es=>(match keepG (injL res x) keep with | some (vs,es')=>K (bundle vs) (es ++ es') | none=>none) | none=>none) =
      Option.bind (match fz with | some es=>(match keepG (injL res x) keep with | some (vs,es')=>some (bundle vs,es ++ es') | none=>none) | none=>none) fun p=>K p.1 p.2:=fun fz=>by
    cases fz with
    | none=>rfl
    | some es=>simp only []; split <;> rfl
  exact key _
theorem callG_bind {cf:Calls} {h:Nat→Obj} {f:SV} {args:List SV} {res:List Sh} {keep:Keys} {opt:Bool} {K:SV→Eff→Option R} :
    callG cf h f args res keep opt K=(callG cf h f args res keep opt fun v e=>some (v,e)).bind fun p=>K p.1 p.2:=by
  unfold callG
  split
  · split
    · rename_i as ids hl
      cases cf _ as res with
      | none=>rfl
      | some x =>
        simp only [Option.bind_some]
        cases keepAll x.2 keep with
        | true =>
          simp only [cond_true]
          cases keepFree h keep with
          | true=>exact callK_bind
          | false=>rfl
        | false =>
          simp only [cond_false]
          cases opt with
          | true=>exact callK_bind
          | false=>rfl
    · rfl
  · rfl
  · rfl
def prE (v:SV) (e:Eff):Option (SV×Eff):=some (v,e)
theorem bind_some' {α β:Type} {o:Option α} {f:α→β} {K:β→Option R}:(o.bind fun x=>some (f x)).bind K=o.bind fun x=>K (f x):=by cases o <;> rfl
theorem lookV_bind {n:Int} {K:SV→Bool→Option R}:(ks:List Int)→(us:List SV)→lookV n ks us K=(lookV n ks us fun v b=>some (v,b)).bind fun p=>K p.1 p.2
  | [],_=>by unfold lookV; rfl
  | _ :: _,[]=>by unfold lookV; rfl
  | k :: ks,u :: us=>by
    simp only [lookV]
    cases decide (n=k) with
    | true=>rfl
    | false=>exact lookV_bind ks us
theorem gop_bind {cf:Calls} {s:Nat→SV} {h:Nat→Obj} {g:GOp} {K:SV→Eff→Option R}:gop cf s h g K=(gop cf s h g prE).bind fun p=>K p.1 p.2:=by
  cases g with
  | load t a=>simp only [gop,prE]; rw [loadT_bind,loadT_bind (K:=fun v=>some (v,_)),bind_some']
  | store t a v =>
    simp only [gop,prE]
    split
    · rw [storeG_bind,storeG_bind (K:=fun e=>some (_,e)),bind_some']
    · rfl
  | bin op x y=>simp only [gop,prE]; rw [binG_bind,binG_bind (K:=fun v=>some (v,_)),bind_some']
  | eqs τ neg x y=>simp only [gop,prE]; rw [eqsG_bind,eqsG_bind (K:=fun v=>some (v,_)),bind_some']
  | fieldAddr t j a=>simp only [gop,prE]; rw [fieldAG_bind,fieldAG_bind (K:=fun v=>some (v,_)),bind_some']
  | field τ j a =>
    simp only [gop,prE]
    repeat' split
    all_goals first | (rw [subD_bind,subD_bind (K:=fun v=>some (v,_)),bind_some']; done) | rfl
  | index t x i=>simp only [gop,prE]; rw [indexG_bind,indexG_bind (K:=fun v=>some (v,_)),bind_some']
  | len x=>simp only [gop,prE]; rw [lenG_bind,lenG_bind (K:=fun v=>some (v,_)),bind_some']
  | build τ parts nils =>
    simp only [gop,prE]
    split
    · rw [buildG_bind,buildG_bind (K:=fun v=>some (v,_)),bind_some']
    · rfl
  | call f args res keep opt=>exact callG_bind
  | pick c a b =>
    simp only [gop]
    repeat' split
    all_goals first
      | rfl
      | (rename_i t _ _ _ _ _ _ _; cases t <;> rfl)
      | (simp only [cond_eq_ite]; split <;> rfl)
  | lookv m i ok =>
    simp only [gop,prE]
    split
    · rename_i ks us n _ _
      rw [lookV_bind ks us (K:=fun v b=>K (lkRes ok v b) []),lookV_bind ks us (K:=fun v b=>some (lkRes ok v b,[]))]
      cases lookV n ks us fun v b=>some (v,b) with
      | none=>rfl
      | some p=>rfl
    · rfl
  | slicearr n e x =>
    simp only [gop,globSl]
    repeat' split
    all_goals rfl
  | _ =>
    simp only [gop]
    repeat' split
    all_goals rfl
theorem gop_par {cf:Calls} {s:Nat→SV} {h:Nat→Obj} {g:GOp} {K:SV→Eff→Option R} {r:R} (hg:gop cf s h g K=some r):∃ v e,K v e=some r∧gop cf s h g prE=some (v,e):=by
  rw [gop_bind] at hg
  cases hp:gop cf s h g prE with
  | none=>rw [hp] at hg; cases hg
  | some p=>rw [hp] at hg; exact ⟨p.1,p.2,hg,rfl⟩
def opdsG:GOp→List Opd
  | .move x=>[x]
  | .mknil _ _=>[]
  | .pick c a b=>[c,a,b]
  | .newbox _ _ _=>[]
  | .newboxv _ _=>[]
  | .box _ x=>[x]
  | .load _ a=>[a]
  | .store _ a v=>[a,v]
  | .bin _ x y=>[x,y]
  | .eqs _ _ x y=>[x,y]
  | .not x=>[x]
  | .neg x=>[x]
  | .conv _ x=>[x]
  | .fieldAddr _ _ a=>[a]
  | .field _ _ a=>[a]
  | .index _ x i=>[x,i]
  | .len x=>[x]
  | .lens x=>[x]
  | .slicearr _ _ x=>[x]
  | .max xs=>xs
  | .min xs=>xs
  | .build _ parts _=>parts.map (·.2)
  | .buildv _ parts=>parts
  | .slice _ _ parts=>parts
  | .slicev _ parts=>parts
  | .make _ _ n=>[n]
  | .append _ _ x y=>[x,y]
  | .extract x _=>[x]
  | .func _ caps=>caps
  | .mkmap _ _ _=>[]
  | .lookup _ _ m i=>[m,i]
  | .lookv m i _=>[m,i]
  | .slx _ x lo hi=>x :: (lo.toList ++ hi.toList)
  | .mapset _ _ m i v=>[m,i,v]
  | .mapent _ _ m i=>[m,i]
  | .mapst _ _ m e v=>[m,e,v]
  | .call f args _ _ _=>f :: args
  | .fail=>[]
section
variable {s s':Nat→SV}
theorem map_evO {xs:List Opd} (hx:∀ x,x∈xs→evO s x=evO s' x):xs.map (evO s)=xs.map (evO s'):=List.map_congr_left hx
theorem intsG_congr:(xs:List Opd)→(∀ x,x∈xs→evO s x=evO s' x)→intsG s xs=intsG s' xs
  | [],_=>rfl
  | [o],hx=>by simp only [intsG,hx o (by simp)]
  | o :: o' :: r,hx=>by
    simp only [intsG,hx o (by simp)]
    rw [show intsG s (o' :: r)=intsG s' (o' :: r) from intsG_congr (o' :: r) (fun x h=>hx x (by simp at h ⊢; exact .inr h))]
theorem partsG_congr {e:Ty}:(xs:List Opd)→(∀ x,x∈xs→evO s x=evO s' x)→partsG e s xs=partsG e s' xs
  | [],_=>rfl
  | o :: r,hx=>by
    simp only [partsG,hx o (by simp),partsG_congr r (fun x h=>hx x (by simp [h]))]
theorem buildG_congr {τ:Ty} {K:SV→Option R}:(parts:List (Nat×Opd))→{x:den τ}→{ov:Ov}→(∀ x,x∈parts.map (·.2)→evO s x=evO s' x)→buildG τ s x ov parts K=buildG τ s' x ov parts K
  | [],_,_,_=>rfl
  | (j,o) :: r,x,ov,hx=>by
    simp only [buildG,hx o (by simp)]
    repeat' split
    all_goals first | exact buildG_congr r (fun x h=>hx x (by simp at h ⊢; exact .inr h)) | rfl
theorem gop_congr {cf:Calls} {h:Nat→Obj} {g:GOp} {K:SV→Eff→Option R} (hx:∀ x,x∈opdsG g→evO s x=evO s' x):gop cf s h g K=gop cf s' h g K:=by
  cases g with
  | max xs=>simp only [gop,intsG_congr xs hx]
  | min xs=>simp only [gop,intsG_congr xs hx]
  | build τ parts nils=>simp only [gop,buildG_congr parts hx]
  | buildv sizes parts=>simp only [gop,map_evO (xs:=parts) hx]
  | slice k e parts=>simp only [gop,partsG_congr parts hx]
  | slicev n parts=>simp only [gop,map_evO (xs:=parts) hx]
  | func f caps=>simp only [gop,map_evO (xs:=caps) hx]
  | call f args res keep opt=>simp only [gop,hx f (by simp [opdsG]),map_evO (xs:=args) (fun x h=>hx x (by simp [opdsG,h]))]
  | slx e x lo hi =>
    have hb:∀ (y:Option Opd) (d:Int),(∀ z,y=some z→evO s z=evO s' z)→bndG s y d=bndG s' y d:=fun y d hy=>by
      cases y with
      | none=>rfl
      | some z=>simp only [bndG,hy z rfl]
    have h1:=hb lo 0 (fun z hz=>hx z (by simp [opdsG,hz]))
    have h2:∀ d,bndG s hi d=bndG s' hi d:=fun d=>hb hi d (fun z hz=>hx z (by simp [opdsG,hz]))
    simp only [gop,hx x (by simp [opdsG]),h1,h2]
  | _=>simp_all [opdsG,gop]
end
end
end Go.Proofs.YtjobjooccgledaaDoor.Ghost
namespace Go.Proofs.YtjobjooccgledaaDoor.Ghost
open Go
def putF (s:Nat→SV) (d:Option Nat) (v:SV):Nat→SV:=fun i=>if d=some i then v else s i
theorem getS_putS (s:Slots) (j:Nat) (x:SV) (i:Nat):getS (putS s j x) i=if j=i then x else getS s i:=by
  induction s with
  | nil =>
    simp only [putS,getS]
    cases hb:Nat.beq j i with
    | true=>rw [if_pos (Nat.eq_of_beq_eq_true hb)]
    | false=>rw [if_neg (Nat.ne_of_beq_eq_false hb)]
  | cons p r ih =>
    obtain ⟨k,v⟩:=p
    simp only [putS]
    cases hk:Nat.beq k j with
    | true =>
      have hkj:=Nat.eq_of_beq_eq_true hk
      subst hkj
      simp only [getS]
      cases hb:Nat.beq k i with
      | true=>rw [if_pos (Nat.eq_of_beq_eq_true hb)]
      | false=>rw [if_neg (Nat.ne_of_beq_eq_false hb)]
    | false =>
      simp only [getS]
      cases hb:Nat.beq k i with
      | true =>
        have e1:=Nat.eq_of_beq_eq_true hb
        have e2:=Nat.ne_of_beq_eq_false hk
        rw [if_neg (fun e=>e2 (by rw [e1,e]))]
      | false=>exact ih
theorem getS_putO (s:Slots) (d:Option Nat) (v:SV):getS (putO s d v)=putF (getS s) d v:=by
  funext i
  cases d with
  | none=>simp [putO,putF]
  | some d=>simp only [putO,putF,getS_putS,Option.some.injEq]
theorem getS_putS_same {s:Slots} {j:Nat} {x:SV} (h:getS s j=x):getS (putS s j x)=getS s:=by
  funext i
  rw [getS_putS]
  split
  · rename_i e; rw [← e,h]
  · rfl
def hvw (draw:Bool) (l:Ln) (h:Nat→Obj):Nat→Obj:=match draw with | true=>mask (l.rd ++ l.wr) h | false=>h
def Exec (cf:Calls) (draw:Bool) (l:Ln) (s:Nat→SV) (h:Nat→Obj) (v:SV) (e:Eff):Prop:=(draw=true→effIn l.wr e=true)∧gop cf s (hvw draw l h) l.op prE=some (v,e)
def Step1 (cf:Calls) (draw:Bool) (l:Ln) (s:Nat→SV) (h:Nat→Obj) (v:SV) (e:Eff):Prop:=match l.g with
  | none=>Exec cf draw l s h v e
  | some (j,want)=>(∃ b,s j=.dat .bool b []∧((b=want∧Exec cf draw l s h v e)∨(b≠want∧v=.und∧e=[])))∨(s j=.und∧v=.und∧e=[])
def Ran (cf:Calls) (draw:Bool):List Ln→(Nat→SV)→(Nat→Obj)→List (SV×Eff)→Prop
  | [],_,_,q=>q=[]
  | l :: r,s,h,q=>∃ v e q',q=(v,e) :: q'∧Step1 cf draw l s h v e∧Ran cf draw r (putF s l.d v) (appE h e) q'
def endS:List Ln→List (SV×Eff)→(Nat→SV)→Nat→SV
  | l :: r,(v,_) :: q,s=>endS r q (putF s l.d v)
  | _,_,s=>s
def endH:List (SV×Eff)→(Nat→Obj)→Nat→Obj
  | (_,e) :: q,h=>endH q (appE h e)
  | [],h=>h
section
variable {R:Type} {cf:Calls}
theorem opLn_exec {draw:Bool} {l:Ln} {s:Slots} {h:Heap} {K:Slots→Heap→Option R} {r:R} (hr:opLn cf draw l s h K=some r) :
    ∃ v e,Exec cf draw l (getS s) (getO h) v e∧K (putO s l.d v) (applyE h e)=some r:=by
  unfold opLn at hr
  cases draw with
  | false =>
    obtain ⟨v,e,h1,h2⟩:=gop_par hr
    exact ⟨v,e,⟨(fun hf=>by cases hf),h2⟩,h1⟩
  | true =>
    obtain ⟨v,e,h1,h2⟩:=gop_par hr
    cases hw:effIn l.wr e with
    | false=>rw [hw] at h1; cases h1
    | true=>rw [hw] at h1; exact ⟨v,e,⟨fun _=>hw,h2⟩,h1⟩
theorem runLns_ran {draw:Bool} {K:Slots→Heap→Option R} {r:R}:(ls:List Ln)→{s:Slots}→{h:Heap}→runLns cf draw ls s h K=some r →
    ∃ q s' h',Ran cf draw ls (getS s) (getO h) q∧K s' h'=some r∧getS s'=endS ls q (getS s)∧getO h'=endH q (getO h)
  | [],s,h,hr=>⟨[],s,h,rfl,hr,rfl,rfl⟩
  | l :: ls,s,h,hr=>by
    have next:∀ (v:SV) (e:Eff) (s1:Slots) (h1:Heap),getS s1=putF (getS s) l.d v→getO h1=appE (getO h) e→Step1 cf draw l (getS s) (getO h) v e→runLns cf draw ls s1 h1 K=some r →
        ∃ q s' h',Ran cf draw (l :: ls) (getS s) (getO h) q∧K s' h'=some r∧getS s'=endS (l :: ls) q (getS s)∧getO h'=endH q (getO h):=fun v e s1 h1 e1 e2 h3 h4=>by
      obtain ⟨q,s',h',q1,q2,q3,q4⟩:=runLns_ran ls h4
      refine ⟨(v,e) :: q,s',h',⟨v,e,q,rfl,h3,by rw [← e1,← e2]; exact q1⟩,q2,?_,?_⟩
      · rw [q3,e1]; rfl
      · rw [q4,e2]; rfl
    have skip:∀ (s1:Slots),getS s1=getS s→Step1 cf draw l (getS s) (getO h) .und []→runLns cf draw ls (putO s1 l.d .und) h K=some r →
        ∃ q s' h',Ran cf draw (l :: ls) (getS s) (getO h) q∧K s' h'=some r∧getS s'=endS (l :: ls) q (getS s)∧getO h'=endH q (getO h):=fun s1 e1 h3 h4 =>
      next .und [] _ h (by rw [getS_putO,e1]) rfl h3 h4
    have exec:∀ (s1:Slots),getS s1=getS s→(∀ v e,Exec cf draw l (getS s) (getO h) v e→Step1 cf draw l (getS s) (getO h) v e)→opLn cf draw l s1 h (fun s h=>runLns cf draw ls s h K)=some r →
        ∃ q s' h',Ran cf draw (l :: ls) (getS s) (getO h) q∧K s' h'=some r∧getS s'=endS (l :: ls) q (getS s)∧getO h'=endH q (getO h):=fun s1 e1 h3 h4=>by
      obtain ⟨v,e,k1,k2⟩:=opLn_exec h4
      rw [e1] at k1
      exact next v e _ _ (by rw [getS_putO,e1]) (getO_applyE h e) (h3 v e k1) k2
    unfold runLns at hr
    cases hg:l.g with
    | none =>
      simp only [hg] at hr
      exact exec s rfl (fun v e k=>by unfold Step1; rw [hg]; exact k) hr
    | some p =>
      obtain ⟨j,want⟩:=p
      cases want with
      | true =>
        simp only [hg] at hr
        split at hr
        · rename_i b hb
          cases b with
          | true =>
            simp only [cond_true] at hr
            exact exec _ (getS_putS_same hb) (fun v e k=>by unfold Step1; rw [hg]; exact .inl ⟨true,hb,.inl ⟨rfl,k⟩⟩) hr
          | false =>
            simp only [cond_false] at hr
            exact skip _ (getS_putS_same hb) (by unfold Step1; rw [hg]; exact .inl ⟨false,hb,.inr ⟨by simp,rfl,rfl⟩⟩) hr
        · rename_i hb
          exact skip s rfl (by unfold Step1; rw [hg]; exact .inr ⟨hb,rfl,rfl⟩) hr
        · cases hr
      | false =>
        simp only [hg] at hr
        split at hr
        · rename_i b hb
          cases b with
          | true =>
            simp only [cond_true] at hr
            exact skip _ (getS_putS_same hb) (by unfold Step1; rw [hg]; exact .inl ⟨true,hb,.inr ⟨by simp,rfl,rfl⟩⟩) hr
          | false =>
            simp only [cond_false] at hr
            exact exec _ (getS_putS_same hb) (fun v e k=>by unfold Step1; rw [hg]; exact .inl ⟨false,hb,.inl ⟨rfl,k⟩⟩) hr
        · rename_i hb
          exact skip s rfl (by unfold Step1; rw [hg]; exact .inr ⟨hb,rfl,rfl⟩) hr
        · cases hr
end
def chkGopC (P:Program) (o:Oper):GOp→Bool
  | .call f args _ _ _=>chkCall o f args
  | g=>chkGop P o g
theorem chkGopC_or {P:Program} {o:Oper} {g:GOp} (h:chkGopC P o g=true):(∃ f args res keep opt,g=.call f args res keep opt∧chkCall o f args=true)∨chkGop P o g=true:=by
  cases g with
  | call f args res keep opt=>exact .inl ⟨f,args,res,keep,opt,rfl,h⟩
  | _=>exact .inr h
def dstOk (N:Nat):Option Nat→Option Tmp→Bool
  | none,none=>true
  | some d,some d'=>Nat.beq d d' && Nat.blt d N
  | _,_=>false
def guardOk (ops:Array Oper):Option (Nat×Bool)→Option (Nat×Bool)→Bool
  | none,none=>true
  | some (j,w),some (g,w')=>(w == w') && (match ops[g]? with | some o=>(match o.dst with | some d=>Nat.beq d j | none=>false) | none=>false)
  | _,_=>false
def chkLn (P:Program) (N:Nat) (ops:Array Oper) (l:Ln) (o:Oper):Bool:=chkGopC P o l.op && dstOk N l.d o.dst && guardOk ops l.g o.guard
theorem dstOk_spec {N:Nat} {d d':Option Nat} (h:dstOk N d d'=true):d=d'∧∀ i,d=some i→i<N:=by
  cases d with
  | none=>cases d' with | none=>exact ⟨rfl,fun i hi=>by cases hi⟩ | some _=>cases h
  | some d =>
    cases d' with
    | none=>cases h
    | some d' =>
      simp only [dstOk,Bool.and_eq_true] at h
      have h1:=Nat.eq_of_beq_eq_true h.1
      subst h1
      refine ⟨rfl,fun i hi => ?_⟩
      cases hi
      have:=h.2
      rw [Nat.blt_eq] at this
      exact this
section
variable {P:Program} {o:Oper} {a:Act} {w:World} {B N:Nat} {w0:Start} {A:Nat→Prop} {ρ:Refs} {own:Nat→Option Nat} {h:Nat→Obj} {s:Nat→SV} {ops:Array Oper} {Q:Exit→Act→World→Prop}
theorem gop_goodC (st:St B w0 A ρ own w h) (hs:SlotsOk A ρ w s a) {cf:Calls} (hcf:CallOk P cf) {g:GOp} (hc:chkGopC P o g=true) {v:SV} {e:Eff} (hg:gop cf s h g prE=some (v,e)) :
    OpGood P o a w B w0 A ρ v (appE h e):=by
  have key:(∃ v1 e1,prE v1 e1=some (v,e)∧OpGood P o a w B w0 A ρ v1 (appE h e1))→OpGood P o a w B w0 A ρ v (appE h e):=fun ⟨v1,e1,h1,h2⟩=>by
    simp only [prE,Option.some.injEq,Prod.mk.injEq] at h1
    obtain ⟨rfl,rfl⟩:=h1
    exact h2
  apply key
  rcases chkGopC_or hc with ⟨f,args,res,keep,opt,rfl,hc⟩ | hc
  · exact good_call st hs hcf hc hg
  · exact gop_good st hs hc hg
theorem eval_bool {j:Nat} {b:Bool} (h:a.eval (.tmp j)=.bool b):a.tmps[j]?=some (.bool b):=by
  unfold Act.eval at h
  simp only [] at h
  rw [Array.getD_eq_getD_getElem?] at h
  cases ht:a.tmps[j]? with
  | none=>rw [ht] at h; simp [undef] at h
  | some v=>rw [ht] at h; simp at h; rw [h]
theorem eval_und {j:Nat} (h:a.eval (.tmp j)=undef):a.tmps[j]?=none∨a.tmps[j]?=some undef:=by
  unfold Act.eval at h
  simp only [] at h
  rw [Array.getD_eq_getD_getElem?] at h
  cases ht:a.tmps[j]? with
  | none=>exact .inl rfl
  | some v=>rw [ht] at h; simp at h; rw [h]; exact .inr rfl
theorem guard_yields {j gi:Nat} {want want':Bool} (hg:guardOk ops (some (j,want)) (some (gi,want'))=true):want=want'∧∀ tmps,yielded ops tmps gi=match tmps[j]? with | some (.bool b)=>some b | _=>none:=by
  simp only [guardOk,Bool.and_eq_true,beq_iff_eq] at hg
  obtain ⟨h1,h2⟩:=hg
  refine ⟨h1,fun tmps => ?_⟩
  unfold yielded
  split at h2
  · rename_i o' ho'
    split at h2
    · rename_i d hd
      have:=Nat.eq_of_beq_eq_true h2
      subst this
      simp only [ho',Option.bind_some,hd]
      rfl
    · cases h2
  · cases h2
theorem SlotsOk.put (hs:SlotsOk A ρ w s a) {A':Nat→Prop} {ρ':Refs} {w':World} (hl:Later A ρ w A' ρ' w') {d:Option Nat} {v:SV} {v':Value} (hd:∀ i,d=some i→i<a.tmps.size) (hv:RepV A' ρ' w' v v') :
    SlotsOk A' ρ' w' (putF s d v) (a.put d v'):=fun i=>by
  unfold putF
  by_cases hi:d=some i
  · rw [if_pos hi]
    subst hi
    have:=hd i rfl
    simp [Act.put,Act.eval,Array.getD_eq_getD_getElem?,this]
    exact hv
  · rw [if_neg hi,Act.eval_put (fun e he h1=>by cases h1; exact hi he)]
    exact hl.repV (hs i)
theorem size_put {d:Option Nat} {v:Value}:(a.put d v).tmps.size=a.tmps.size:=by cases d <;> simp [Act.put]
theorem defers_put {d:Option Nat} {v:Value}:(a.put d v).defers=a.defers:=by cases d <;> rfl
theorem step_ok {i:Nat} {l:Ln} (hi:ops[i]?=some o) (st:St B w0 A ρ own w h) (hs:SlotsOk A ρ w s a) {cf:Calls} (hcf:CallOk P cf) (hc:chkLn P N ops l o=true) {draw:Bool} {v:SV} {e:Eff}
    (h1:Step1 cf draw l s h v e) {K:Act→World→Prop} (hK:∀ v' w' A' ρ' own',St B w0 A' ρ' own' w' (appE h e)→Later A ρ w A' ρ' w'→RepV A' ρ' w' v v'→K (a.put o.dst v') w'):wpOp P ops Q i K a w:=by
  unfold chkLn at hc
  simp only [Bool.and_eq_true] at hc
  obtain ⟨⟨c1,c2⟩,c3⟩:=hc
  have hexec:Exec cf draw l s h v e→Region.wanted o (yielded ops a.tmps)=true→wpOp P ops Q i K a w:=fun hx hw=>by
    unfold wpOp
    simp only [hi,hw,if_true]
    have hg:gop cf s h l.op prE=some (v,e):=by
      obtain ⟨_,hx⟩:=hx
      cases draw with
      | false=>exact hx
      | true=>exact gop_msk (mask_msk _ h) hx
    exact .inl (gop_goodC st hs hcf c1 hg K Q hK)
  have hskip:v=.und→e=[]→Region.wanted o (yielded ops a.tmps)=false→wpOp P ops Q i K a w:=fun e1 e2 hw=>by
    unfold wpOp
    simp only [hi,hw]
    subst e1 e2
    exact hK undef w A ρ own st (Later.refl ..) (by simp only [RepV])
  unfold Step1 at h1
  cases hg:l.g with
  | none =>
    rw [hg] at c3 h1
    cases hog:o.guard with
    | none=>exact hexec h1 (by simp [Region.wanted,hog])
    | some p=>rw [hog] at c3; cases c3
  | some p =>
    obtain ⟨j,want⟩:=p
    rw [hg] at c3 h1
    cases hog:o.guard with
    | none=>rw [hog] at c3; cases c3
    | some p' =>
      obtain ⟨gi,want'⟩:=p'
      rw [hog] at c3
      obtain ⟨e1,e2⟩:=guard_yields c3
      subst e1
      simp only [] at h1
      rcases h1 with ⟨b,hb,h1⟩ | ⟨hb,h1,h2⟩
      · have k1:=hs j
        rw [hb] at k1
        have k2:=eval_bool (repV_bool k1)
        rcases h1 with ⟨rfl,h1⟩ | ⟨hne,h1,h2⟩
        · exact hexec h1 (by simp [Region.wanted,hog,e2,k2])
        · exact hskip h1 h2 (by simp [Region.wanted,hog,e2,k2,hne])
      · have k1:=hs j
        rw [hb] at k1
        refine hskip h1 h2 ?_
        rcases eval_und (repV_und k1) with k2 | k2
        · simp [Region.wanted,hog,e2,k2]
        · simp [Region.wanted,hog,e2,k2,undef]
end
end Go.Proofs.YtjobjooccgledaaDoor.Ghost
namespace Go.Proofs.YtjobjooccgledaaDoor.Ghost
open Go
def exS:List Ln→List (SV×Eff)→(Nat→Bool)→Nat→(Nat→SV)→Nat→SV
  | l :: r,(v,_) :: q,E,k,s=>exS r q E (k+1) (bif E k then putF s l.d v else s)
  | _,_,_,_,s=>s
def exH:List (SV×Eff)→(Nat→Bool)→Nat→(Nat→Obj)→Nat→Obj
  | (_,e) :: q,E,k,h=>exH q E (k+1) (bif E k then appE h e else h)
  | [],_,_,h=>h
theorem exS_all {E:Nat→Bool}:(ls:List Ln)→(q:List (SV×Eff))→(k:Nat)→(s:Nat→SV)→(∀ m,m<q.length→E (k+m)=true)→exS ls q E k s=endS ls q s
  | l :: r,(v,e) :: q,k,s,hE=>by
    simp only [exS,endS]
    have:=hE 0 (by simp)
    simp only [Nat.add_zero] at this
    rw [this,cond_true]
    exact exS_all r q (k+1) _ (fun m hm=>by rw [Nat.add_right_comm]; exact hE (m+1) (by simpa using hm))
  | [],[],_,_,_=>rfl
  | [],_ :: _,_,_,_=>rfl
  | _ :: _,[],_,_,_=>rfl
theorem exH_all {E:Nat→Bool}:(q:List (SV×Eff))→(k:Nat)→(h:Nat→Obj)→(∀ m,m<q.length→E (k+m)=true)→exH q E k h=endH q h
  | (v,e) :: q,k,h,hE=>by
    simp only [exH,endH]
    have:=hE 0 (by simp)
    simp only [Nat.add_zero] at this
    rw [this,cond_true]
    exact exH_all q (k+1) _ (fun m hm=>by rw [Nat.add_right_comm]; exact hE (m+1) (by simpa using hm))
  | [],_,_,_=>rfl
theorem exS_none {E:Nat→Bool}:(ls:List Ln)→(q:List (SV×Eff))→(k:Nat)→(s:Nat→SV)→(∀ m,k≤m→E m=false)→exS ls q E k s=s
  | l :: r,(v,e) :: q,k,s,hE=>by
    simp only [exS]
    rw [hE k (Nat.le_refl k),cond_false]
    exact exS_none r q (k+1) _ (fun m hm=>hE m (by omega))
  | [],[],_,_,_=>rfl
  | [],_ :: _,_,_,_=>rfl
  | _ :: _,[],_,_,_=>rfl
theorem exH_none {E:Nat→Bool}:(q:List (SV×Eff))→(k:Nat)→(h:Nat→Obj)→(∀ m,k≤m→E m=false)→exH q E k h=h
  | (v,e) :: q,k,h,hE=>by
    simp only [exH]
    rw [hE k (Nat.le_refl k),cond_false]
    exact exH_none q (k+1) _ (fun m hm=>hE m (by omega))
  | [],_,_,_=>rfl
theorem exS_agree {E1 E2:Nat→Bool} {t:Nat}:(ls:List Ln)→(q:List (SV×Eff))→(k:Nat)→(s1 s2:Nat→SV)→s1 t=s2 t→(∀ m l,ls[m]?=some l→E1 (k+m)≠E2 (k+m)→l.d≠some t)→exS ls q E1 k s1 t=exS ls q E2 k s2 t
  | l :: r,(v,e) :: q,k,s1,s2,hs,hE=>by
    simp only [exS]
    refine exS_agree r q (k+1) _ _ ?_ (fun m l hm hne=>hE (m+1) l (by simpa using hm) (by rw [Nat.add_right_comm] at hne; exact hne))
    have h0:=hE 0 l rfl
    simp only [Nat.add_zero] at h0
    cases h1:E1 k <;> cases h2:E2 k <;> simp only [cond_true,cond_false,putF]
    · exact hs
    · rw [if_neg (h0 (by rw [h1,h2]; simp))]; exact hs
    · rw [if_neg (h0 (by rw [h1,h2]; simp))]; exact hs
    · rw [hs]
  | [],[],_,_,_,hs,_=>hs
  | [],_ :: _,_,_,_,hs,_=>hs
  | _ :: _,[],_,_,_,hs,_=>hs
def domE (e:Eff) (g:Nat):Prop:=∃ p,p∈e∧p.1=g
theorem appE_dom {g:Nat}:(e:Eff)→(h1 h2:Nat→Obj)→(domE e g∨h1 g=h2 g)→appE h1 e g=appE h2 e g
  | [],_,_,hd=>hd.elim (fun ⟨_,h,_⟩=>by cases h) id
  | (k,o) :: r,h1,h2,hd=>by
    simp only [appE]
    refine appE_dom r _ _ ?_
    by_cases hk:g=k
    · exact .inr (by simp [hk])
    · simp only [hk,if_false]
      rcases hd with ⟨p,hp,rfl⟩ | hd
      · rcases List.mem_cons.1 hp with rfl | hp
        · exact absurd rfl hk
        · exact .inl ⟨p,hp,rfl⟩
      · exact .inr hd
theorem appE_nd {e:Eff} {h:Nat→Obj} {g:Nat} (hd:¬ domE e g):appE h e g=h g:=appE_notin e (fun q hq e'=>hd ⟨q,hq,e'⟩)
theorem exH_agree {E1 E2:Nat→Bool} {g:Nat}:(q:List (SV×Eff))→(k:Nat)→(h1 h2:Nat→Obj)→h1 g=h2 g→(∀ m v e,q[m]?=some (v,e)→E1 (k+m)≠E2 (k+m)→¬ domE e g)→exH q E1 k h1 g=exH q E2 k h2 g
  | (v,e) :: q,k,h1,h2,hs,hE=>by
    simp only [exH]
    refine exH_agree q (k+1) _ _ ?_ (fun m v e hm hne=>hE (m+1) v e (by simpa using hm) (by rw [Nat.add_right_comm] at hne; exact hne))
    have h0:=hE 0 v e rfl
    simp only [Nat.add_zero] at h0
    cases k1:E1 k <;> cases k2:E2 k <;> simp only [cond_true,cond_false]
    · exact hs
    · rw [appE_nd (h0 (by rw [k1,k2]; simp))]; exact hs
    · rw [appE_nd (h0 (by rw [k1,k2]; simp))]; exact hs
    · exact appE_dom e _ _ (.inr hs)
  | [],_,_,_,hs,_=>hs
theorem exS_last {E:Nat→Bool} {t i:Nat} {l:Ln} {v:SV} {e:Eff}:(ls:List Ln)→(q:List (SV×Eff))→(k m:Nat)→(s:Nat→SV)→ls[m]?=some l→q[m]?=some (v,e)→E (k+m)=true→l.d=some t →
    (∀ m' l',m<m'→ls[m']?=some l'→E (k+m')=true→l'.d≠some t)→exS ls q E k s t=v
  | l0 :: r,(v0,e0) :: q,k,0,s,hl,hq,hE,hd,hn=>by
    simp at hl hq
    obtain ⟨rfl,rfl⟩:=hq
    subst hl
    simp only [exS]
    simp only [Nat.add_zero] at hE
    rw [hE,cond_true,exS_agree (E2:=fun _=>false) r q (k+1) _ (putF s l0.d v0) rfl (fun m' l' hm hne=>hn (m'+1) l' (by omega) (by simpa using hm) (by
      rw [show k+(m'+1)=k+1+m' by omega]
      cases h:E (k+1+m') <;> simp_all)),exS_none _ _ _ _ (fun _ _=>rfl)]
    simp [putF,hd]
  | l0 :: r,(v0,e0) :: q,k,m+1,s,hl,hq,hE,hd,hn=>by
    simp only [exS]
    exact exS_last (i:=i) r q (k+1) m _ (by simpa using hl) (by simpa using hq) (by rw [Nat.add_right_comm]; exact hE) hd (fun m' l' h1 h2 h3=>hn (m'+1) l' (by omega) (by simpa using h2) (by rw [Nat.add_right_comm] at h3; exact h3))
  | [],_,_,_,_,hl,_,_,_,_=>by simp at hl
  | _ :: _,[],_,_,_,_,hq,_,_,_=>by simp at hq
theorem exH_last {E:Nat→Bool} {g:Nat} {v:SV} {e:Eff} {h0:Nat→Obj}:(q:List (SV×Eff))→(k m:Nat)→(h:Nat→Obj)→q[m]?=some (v,e)→E (k+m)=true→domE e g →
    (∀ m' v' e',m<m'→q[m']?=some (v',e')→E (k+m')=true→¬ domE e' g)→exH q E k h g=appE h0 e g
  | (v0,e0) :: q,k,0,h,hq,hE,hd,hn=>by
    simp at hq
    obtain ⟨rfl,rfl⟩:=hq
    simp only [exH]
    simp only [Nat.add_zero] at hE
    rw [hE,cond_true,exH_agree (E2:=fun _=>false) q (k+1) _ (appE h e0) rfl (fun m' v' e' hm hne=>hn (m'+1) v' e' (by omega) (by simpa using hm) (by
      rw [show k+(m'+1)=k+1+m' by omega]
      cases h:E (k+1+m') <;> simp_all)),exH_none _ _ _ (fun _ _=>rfl)]
    exact appE_dom e0 _ _ (.inl hd)
  | (v0,e0) :: q,k,m+1,h,hq,hE,hd,hn=>by
    simp only [exH]
    exact exH_last q (k+1) m _ (by simpa using hq) (by rw [Nat.add_right_comm]; exact hE) hd (fun m' v' e' h1 h2 h3=>hn (m'+1) v' e' (by omega) (by simpa using h2) (by rw [Nat.add_right_comm] at h3; exact h3))
  | [],_,_,_,hq,_,_,_=>by simp at hq
theorem ran_at {cf:Calls} {draw:Bool}:(ls:List Ln)→(q:List (SV×Eff))→(k:Nat)→(s:Nat→SV)→(h:Nat→Obj)→Ran cf draw ls s h q→q.length=ls.length ∧
    ∀ m l,ls[m]?=some l→∃ v e,q[m]?=some (v,e)∧Step1 cf draw l (exS ls q (fun j=>decide (j<k+m)) k s) (exH q (fun j=>decide (j<k+m)) k h) v e
  | [],q,_,_,_,hr=>by
    have:q=[]:=hr
    subst this
    exact ⟨rfl,fun m l hm=>by simp at hm⟩
  | l :: r,q,k,s,h,hr=>by
    obtain ⟨v,e,q',rfl,h1,h2⟩:=hr
    obtain ⟨i1,i2⟩:=ran_at r q' (k+1) _ _ h2
    refine ⟨by simp [i1],fun m l' hm => ?_⟩
    cases m with
    | zero =>
      simp at hm
      subst hm
      refine ⟨v,e,rfl,?_⟩
      rw [exS_none _ _ _ _ (fun m hm=>by simp; omega),exH_none _ _ _ (fun m hm=>by simp; omega)]
      exact h1
    | succ m =>
      obtain ⟨v',e',j1,j2⟩:=i2 m l' (by simpa using hm)
      refine ⟨v',e',by simpa using j1,?_⟩
      simp only [exS,exH]
      have e1:decide (k<k+(m+1))=true:=by simp
      rw [e1,cond_true,cond_true,show k+(m+1)=k+1+m by omega]
      exact j2
def tmpsO:List Opd→List Nat
  | []=>[]
  | .t i :: r=>i :: tmpsO r
  | _ :: r=>tmpsO r
def usesL (l:Ln):List Nat:=match l.g with
  | none=>tmpsO (opdsG l.op)
  | some (j,_)=>j :: tmpsO (opdsG l.op)
theorem mem_tmpsO {x:Nat}:{l:List Opd}→.t x∈l→x∈tmpsO l
  | [],h=>by cases h
  | .t i :: r,h=>by
    rcases List.mem_cons.1 h with h | h
    · cases h; simp [tmpsO]
    · simp [tmpsO,mem_tmpsO h]
  | .c _ _ :: r,h=>by
    rcases List.mem_cons.1 h with h | h
    · cases h
    · simp only [tmpsO]; exact mem_tmpsO h
  | .f _ :: r,h=>by
    rcases List.mem_cons.1 h with h | h
    · cases h
    · simp only [tmpsO]; exact mem_tmpsO h
  | .g _ :: r,h=>by
    rcases List.mem_cons.1 h with h | h
    · cases h
    · simp only [tmpsO]; exact mem_tmpsO h
  | .nf :: r,h=>by
    rcases List.mem_cons.1 h with h | h
    · cases h
    · simp only [tmpsO]; exact mem_tmpsO h
theorem evO_congr {s s':Nat→SV} {l:List Opd} (hs:∀ t,t∈tmpsO l→s t=s' t):∀ x,x∈l→evO s x=evO s' x:=fun x hx=>by
  cases x with
  | t i=>exact hs i (mem_tmpsO hx)
  | _=>rfl
theorem any_beq {ids:List Nat} {g:Nat}:ids.any (Nat.beq g)=true↔g∈ids:=by
  rw [List.any_eq_true]
  constructor
  · rintro ⟨x,h1,h2⟩; rw [Nat.eq_of_beq_eq_true h2]; exact h1
  · intro h; exact ⟨g,h,by simp⟩
theorem mask_congr {ids:List Nat} {h h':Nat→Obj} (hh:∀ g,g∈ids→h g=h' g):mask ids h=mask ids h':=by
  funext g
  unfold mask
  cases ha:ids.any (Nat.beq g) with
  | true=>exact hh g (any_beq.1 ha)
  | false=>rfl
theorem Step1.congr {cf:Calls} {l:Ln} {s s':Nat→SV} {h h':Nat→Obj} {v:SV} {e:Eff} (h1:Step1 cf true l s h v e) (hs:∀ t,t∈usesL l→s t=s' t) (hh:∀ g,g∈l.rd ++ l.wr→h g=h' g):Step1 cf true l s' h' v e:=by
  have hx:(∀ t,t∈tmpsO (opdsG l.op)→s t=s' t)→Exec cf true l s h v e→Exec cf true l s' h' v e:=fun hs ⟨k1,k2⟩=>by
    refine ⟨k1,?_⟩
    unfold hvw at k2 ⊢
    simp only [] at k2 ⊢
    rw [← mask_congr hh,← gop_congr (evO_congr hs)]
    exact k2
  unfold Step1 at h1 ⊢
  unfold usesL at hs
  cases hg:l.g with
  | none=>rw [hg] at h1 hs; exact hx hs h1
  | some p =>
    obtain ⟨j,want⟩:=p
    rw [hg] at h1 hs
    simp only [] at h1 hs ⊢
    rw [← hs j (by simp)]
    have hx:=hx (fun t ht=>hs t (by simp [ht]))
    rcases h1 with ⟨b,hb,⟨k1,k2⟩ | k1⟩ | h1
    · exact .inl ⟨b,hb,.inl ⟨k1,hx k2⟩⟩
    · exact .inl ⟨b,hb,.inr k1⟩
    · exact .inr h1
theorem effIn_dom {wr:List Nat}:{e:Eff}→effIn wr e=true→∀ g,domE e g→g∈wr
  | [],_,_,⟨_,h,_⟩=>by cases h
  | (k,o) :: r,he,g,⟨p,hp,hg⟩=>by
    simp only [effIn,Bool.and_eq_true] at he
    rcases List.mem_cons.1 hp with rfl | hp
    · subst hg; exact any_beq.1 he.1
    · exact effIn_dom he.2 g ⟨p,hp,hg⟩
theorem Step1.dom {cf:Calls} {l:Ln} {s:Nat→SV} {h:Nat→Obj} {v:SV} {e:Eff} (h1:Step1 cf true l s h v e):∀ g,domE e g→g∈l.wr:=by
  have hx:Exec cf true l s h v e→∀ g,domE e g→g∈l.wr:=fun hx=>effIn_dom (hx.1 rfl)
  have h0:e=[]→∀ g,domE e g→g∈l.wr:=fun he g ⟨p,hp,_⟩=>by rw [he] at hp; cases hp
  unfold Step1 at h1
  cases hg:l.g with
  | none=>rw [hg] at h1; exact hx h1
  | some p =>
    obtain ⟨j,want⟩:=p
    rw [hg] at h1
    rcases h1 with ⟨b,hb,⟨_,k2⟩ | ⟨_,_,k⟩⟩ | ⟨_,_,k⟩
    · exact hx k2
    · exact h0 k
    · exact h0 k
end Go.Proofs.YtjobjooccgledaaDoor.Ghost
namespace Go.Proofs.YtjobjooccgledaaDoor.Ghost
open Go
section
variable {P:Program} {B N:Nat} {w0:Start} {ops:Array Oper} {Q:Exit→Act→World→Prop} {cf:Calls}
structure At (N B:Nat) (w0:Start) (s:Nat→SV) (h:Nat→Obj) (A:Nat→Prop) (ρ:Refs) (own:Nat→Option Nat) (a:Act) (w:World):Prop where
  st:St B w0 A ρ own w h
  sl:SlotsOk A ρ w s a
  sz:a.tmps.size=N
  df:a.defers=[]
def Is (N B:Nat) (w0:Start) (s:Nat→SV) (h:Nat→Obj) (a:Act) (w:World):Prop:=∃ A ρ own,At N B w0 s h A ρ own a w
theorem step_is {i:Nat} {o:Oper} {l:Ln} {a:Act} {w:World} {h:Nat→Obj} {s:Nat→SV} (hi:ops[i]?=some o) (hs:Is N B w0 s h a w) (hcf:CallOk P cf) (hc:chkLn P N ops l o=true) {draw:Bool} {v:SV} {e:Eff}
    (h1:Step1 cf draw l s h v e) {K:Act→World→Prop} (hK:∀ a' w',Is N B w0 (putF s l.d v) (appE h e) a' w'→K a' w'):wpOp P ops Q i K a w:=by
  obtain ⟨A,ρ,own,st,sl,sz,df⟩:=hs
  have hd:l.d=o.dst∧∀ i,l.d=some i→i<N:=by
    unfold chkLn at hc
    simp only [Bool.and_eq_true] at hc
    exact dstOk_spec hc.1.2
  refine step_ok hi st sl hcf hc h1 (fun v' w' A' ρ' own' st' hl hv=>hK _ _ ⟨A',ρ',own',st',?_,by rw [size_put,sz],by rw [defers_put,df]⟩)
  rw [← hd.1]
  exact SlotsOk.put sl hl (fun i hi=>by rw [sz]; exact hd.2 i hi) hv
theorem region_ok (hcf:CallOk P cf):(ls:List Ln)→(k:Nat)→{s:Nat→SV}→{h:Nat→Obj}→{q:List (SV×Eff)}→{a:Act}→{w:World}→(∀ m l,ls[m]?=some l→∃ o,ops[k+m]?=some o∧chkLn P N ops l o=true) →
    Ran cf false ls s h q→Is N B w0 s h a w→(∀ a' w',Is N B w0 (endS ls q s) (endH q h) a' w'→Q .normal a' w')→wpOps P ops Q (List.range' k ls.length) a w
  | [],k,s,h,q,a,w,hc,hr,hs,hQ=>by
    have:q=[]:=hr
    subst this
    exact hQ a w hs
  | l :: r,k,s,h,q,a,w,hc,hr,hs,hQ=>by
    obtain ⟨v,e,q',rfl,h1,h2⟩:=hr
    obtain ⟨o,ho,hco⟩:=hc 0 l rfl
    simp only [List.length_cons,List.range'_succ]
    rw [wpOps_cons]
    refine step_is ho hs hcf hco h1 (fun a' w' hs'=>region_ok hcf r (k+1) (fun m l hm => ?_) h2 hs' hQ)
    obtain ⟨o',k1,k2⟩:=hc (m+1) l (by simpa using hm)
    exact ⟨o',by rw [Nat.add_right_comm]; exact k1,k2⟩
def disj (l m:List Nat):Bool := !(l.any fun x=>m.any (Nat.beq x))
theorem disj_spec {l m:List Nat} (h:disj l m=true) {x:Nat} (h1:x∈l) (h2:x∈m):False:=by
  unfold disj at h
  rw [Bool.not_eq_true',List.any_eq_false] at h
  exact h x h1 (any_beq.2 h2)
def dLs (l:Ln):List Nat:=match l.d with | some d=>[d] | none=>[]
def disA (x y:Ln):Bool:=disj (dLs x) (usesL y) && disj (dLs y) (usesL x) && disj (dLs x) (dLs y) && disj x.wr (y.rd ++ y.wr) && disj y.wr (x.rd ++ x.wr)
def isLk:GOp→Bool
  | .lookup _ _ _ _=>true
  | _=>false
def isEnt:GOp→Bool
  | .mapent _ _ _ _=>true
  | _=>false
def softL (x y:Ln):Bool:=isLk x.op && isEnt y.op && (match x.wr with | []=>true | _=>false) && disj (dLs x) (usesL y) && disj (dLs y) (usesL x) && disj (dLs x) (dLs y)
def disL (x y:Ln):Bool:=disA x y || softL x y || softL y x
theorem mem_dLs {l:Ln} {d:Nat} (h:l.d=some d):d∈dLs l:=by unfold dLs; rw [h]; simp
theorem disj_symm {l m:List Nat} (h:disj l m=true):disj m l=true:=by
  unfold disj
  rw [Bool.not_eq_true',List.any_eq_false]
  intro x hx hy
  exact disj_spec h (any_beq.1 hy) hx
theorem disL_symm {x y:Ln} (h:disL x y=true):disL y x=true:=by
  unfold disL at h ⊢
  simp only [Bool.or_eq_true] at h ⊢
  rcases h with (h | h) | h
  · refine .inl (.inl ?_)
    unfold disA at h ⊢
    simp only [Bool.and_eq_true] at h ⊢
    obtain ⟨⟨⟨⟨h1,h2⟩,h3⟩,h4⟩,h5⟩:=h
    exact ⟨⟨⟨⟨h2,h1⟩,disj_symm h3⟩,h5⟩,h4⟩
  · exact .inr h
  · exact .inl (.inr h)
theorem disL_cases {l y:Ln} (h:disL l y=true):(∀ t,t∈dLs y→t∈usesL l→False)∧(∀ t,t∈dLs l→t∈dLs y→False)∧(∀ g,g∈l.wr→g∈y.wr→False)∧((∀ g,g∈y.wr→g∈l.rd ++ l.wr→False)∨(isLk l.op=true∧isEnt y.op=true)):=by
  have nil:∀ {w:List Nat},(match w with | []=>true | _=>false)=true→w=[]:=fun {w} h=>by cases w with | nil=>rfl | cons _ _=>cases h
  unfold disL at h
  simp only [Bool.or_eq_true] at h
  rcases h with (h | h) | h
  · unfold disA at h
    simp only [Bool.and_eq_true] at h
    obtain ⟨⟨⟨⟨h1,h2⟩,h3⟩,h4⟩,h5⟩:=h
    exact ⟨fun t a b=>disj_spec h2 a b,fun t a b=>disj_spec h3 a b,fun g a b=>disj_spec h4 a (List.mem_append_right _ b),.inl fun g a b=>disj_spec h5 a b⟩
  · unfold softL at h
    simp only [Bool.and_eq_true] at h
    obtain ⟨⟨⟨⟨⟨h1,h2⟩,h3⟩,h4⟩,h5⟩,h6⟩:=h
    have e:=nil h3
    exact ⟨fun t a b=>disj_spec h5 a b,fun t a b=>disj_spec h6 a b,(fun g a b=>by rw [e] at a; cases a),.inr ⟨h1,h2⟩⟩
  · unfold softL at h
    simp only [Bool.and_eq_true] at h
    obtain ⟨⟨⟨⟨⟨h1,h2⟩,h3⟩,h4⟩,h5⟩,h6⟩:=h
    have e:=nil h3
    exact ⟨fun t a b=>disj_spec h4 a b,fun t a b=>disj_spec h6 b a,(fun g a b=>by rw [e] at b; cases b),.inl (fun g a b=>by rw [e] at a; cases a)⟩
def befO (o:Oper) (Bs:List Nat):Nat:=o.after.toList.foldl (fun s e=>bif Region.binds .any e then s ||| 2 ^ e.on ||| Bs.getD e.on 0 else s) 0
def befL:List Oper→List Nat→List Nat
  | [],acc=>acc
  | o :: r,acc=>befL r (acc ++ [befO o acc])
theorem befO_test {o:Oper} {Bs:List Nat} {i:Nat} (h:(befO o Bs).testBit i=true):∃ e,e∈o.after∧Region.binds .any e=true∧(e.on=i∨(Bs.getD e.on 0).testBit i=true):=by
  have key:∀ (l:List Edge) (s:Nat),(l.foldl (fun s e=>bif Region.binds .any e then s ||| 2 ^ e.on ||| Bs.getD e.on 0 else s) s).testBit i=true→s.testBit i=true∨∃ e,e∈l∧Region.binds .any e=true∧(e.on=i∨(Bs.getD e.on 0).testBit i=true):=by
    intro l
    induction l with
    | nil=>intro s h; exact .inl h
    | cons e r ih =>
      intro s h
      simp only [List.foldl_cons] at h
      rcases ih _ h with h | ⟨e',h1,h2⟩
      · cases hb:Region.binds .any e with
        | false=>rw [hb,cond_false] at h; exact .inl h
        | true =>
          rw [hb,cond_true,Nat.testBit_or,Nat.testBit_or,Nat.testBit_two_pow] at h
          simp only [Bool.or_eq_true,decide_eq_true_eq] at h
          rcases h with (h | h) | h
          · exact .inl h
          · exact .inr ⟨e,by simp,hb,.inl h⟩
          · exact .inr ⟨e,by simp,hb,.inr h⟩
      · exact .inr ⟨e',by simp [h1],h2⟩
  rcases key _ _ h with h | ⟨e,h1,h2⟩
  · simp at h
  · exact ⟨e,by simpa using h1,h2⟩
def chkBef (Bs:List Nat):Nat→List Oper→Bool
  | _,[]=>true
  | j,o :: r=>Nat.beq (Bs.getD j 0) (befO o Bs) && o.after.toList.all (fun e => !(Region.binds .any e) || Nat.blt e.on j) && chkBef Bs (j+1) r
def chkPair (Bs:List Nat) (j:Nat) (y:Ln):Nat→List Ln→Bool
  | _,[]=>true
  | i,x :: r=>(bif Nat.blt i j then (Bs.getD j 0).testBit i || disL x y else true) && chkPair Bs j y (i+1) r
def chkPairs (Bs:List Nat) (all:List Ln):Nat→List Ln→Bool
  | _,[]=>true
  | j,y :: r=>chkPair Bs j y 0 all && chkPairs Bs all (j+1) r
def chkDraw (ops:List Oper) (ls:List Ln):Bool:=chkBef (befL ops []) 0 ops && chkPairs (befL ops []) ls 0 ls
theorem chkBef_spec {Bs:List Nat}:(l:List Oper)→(k:Nat)→chkBef Bs k l=true→∀ m o,l[m]?=some o→Bs.getD (k+m) 0=befO o Bs∧∀ e,e∈o.after→Region.binds .any e=true→e.on<k+m
  | [],_,_,m,o,h=>by simp at h
  | o :: r,k,hc,m,o',hm=>by
    simp only [chkBef,Bool.and_eq_true] at hc
    obtain ⟨⟨h1,h2⟩,h3⟩:=hc
    cases m with
    | zero =>
      simp at hm
      subst hm
      refine ⟨Nat.eq_of_beq_eq_true h1,fun e he hb => ?_⟩
      have:=List.all_eq_true.1 h2 e (by simpa using he)
      rw [hb] at this
      simpa [Nat.blt_eq] using this
    | succ m =>
      have:=chkBef_spec r (k+1) h3 m o' (by simpa using hm)
      rw [show k+(m+1)=k+1+m by omega]
      exact this
theorem chkPair_spec {Bs:List Nat} {j:Nat} {y:Ln}:(l:List Ln)→(k:Nat)→chkPair Bs j y k l=true→∀ m x,l[m]?=some x→k+m<j→(Bs.getD j 0).testBit (k+m)=true∨disL x y=true
  | [],_,_,m,o,h,_=>by simp at h
  | x :: r,k,hc,m,x',hm,hlt=>by
    simp only [chkPair,Bool.and_eq_true] at hc
    cases m with
    | zero =>
      simp at hm
      subst hm
      have hb:Nat.blt k j=true:=by rw [Nat.blt_eq]; simpa using hlt
      have:=hc.1
      rw [hb,cond_true,Bool.or_eq_true] at this
      exact this
    | succ m =>
      have:=chkPair_spec r (k+1) hc.2 m x' (by simpa using hm) (by omega)
      rw [show k+(m+1)=k+1+m by omega]
      exact this
theorem chkPairs_spec {Bs:List Nat} {all:List Ln}:(l:List Ln)→(k:Nat)→chkPairs Bs all k l=true→∀ m y,l[m]?=some y→∀ i x,all[i]?=some x→i<k+m→(Bs.getD (k+m) 0).testBit i=true∨disL x y=true
  | [],_,_,m,o,h=>by simp at h
  | y :: r,k,hc,m,y',hm=>by
    simp only [chkPairs,Bool.and_eq_true] at hc
    cases m with
    | zero =>
      simp at hm
      subst hm
      intro i x hi hlt
      have:=chkPair_spec all 0 hc.1 i x hi (by simpa using hlt)
      simpa using this
    | succ m =>
      have:=chkPairs_spec r (k+1) hc.2 m y' (by simpa using hm)
      rw [show k+(m+1)=k+1+m by omega]
      exact this
end
end Go.Proofs.YtjobjooccgledaaDoor.Ghost
namespace Go.Proofs.YtjobjooccgledaaDoor.Ghost
open Go
section
variable {P:Program} {B N:Nat} {w0:Start} {ops:Array Oper} {Q:Exit→Act→World→Prop} {cf:Calls} {ls:List Ln} {q:List (SV×Eff)} {s:Nat→SV} {h:Nat→Obj}
def Closed (ops:Array Oper) (E:Nat→Bool):Prop:=∀ j o,ops[j]?=some o→E j=true→∀ e,e∈o.after→Region.binds .any e=true→E e.on=true
def bs (ops:Array Oper):List Nat:=befL ops.toList []
structure DrawOk (ops:Array Oper) (ls:List Ln):Prop where
  len:ls.length=ops.size
  bef:∀ j o,ops[j]?=some o→(bs ops).getD j 0=befO o (bs ops)∧∀ e,e∈o.after→Region.binds .any e=true→e.on<j
  pair:∀ i j x y,ls[i]?=some x→ls[j]?=some y→i<j→((bs ops).getD j 0).testBit i=true∨disL x y=true
theorem chkDraw_ok (hl:ls.length=ops.size) (hd:chkDraw ops.toList ls=true):DrawOk ops ls:=by
  unfold chkDraw at hd
  rw [Bool.and_eq_true] at hd
  refine ⟨hl,fun j o hj => ?_,fun i j x y hi hj hlt => ?_⟩
  · have:=chkBef_spec ops.toList 0 hd.1 j o (by simpa using hj)
    simpa [bs] using this
  · have:=chkPairs_spec ls 0 hd.2 j y hj i x hi (by simpa using hlt)
    simpa [bs] using this
theorem closed_test (hd:DrawOk ops ls) {E:Nat→Bool} (hE:Closed ops E) {i:Nat}:(n j:Nat)→j<n→{o:Oper}→ops[j]?=some o→E j=true→((bs ops).getD j 0).testBit i=true→E i=true
  | 0,_,hj,_,_,_,_=>by omega
  | n+1,j,hj,o,ho,hEj,ht=>by
    obtain ⟨k1,k2⟩:=hd.bef j o ho
    rw [k1] at ht
    obtain ⟨e,h1,h2,h3⟩:=befO_test ht
    have hEe:=hE j o ho hEj e h1 h2
    rcases h3 with h3 | h3
    · rw [← h3]; exact hEe
    · have hlt:=k2 e h1 h2
      have hsz:j<ops.size:=(Array.getElem?_eq_some_iff.1 ho).1
      exact closed_test hd hE n e.on (by omega) (o:=ops[e.on]'(by omega)) (Array.getElem?_eq_getElem _) hEe h3
theorem ready_dis (hd:DrawOk ops ls) {E:Nat→Bool} (hE:Closed ops E) {i:Nat} {o:Oper} (ho:ops[i]?=some o) (hi:E i=false) (hr:∀ e,e∈o.after→Region.binds .any e=true→E e.on=true) {l:Ln} (hl:ls[i]?=some l)
    {j:Nat} {y:Ln} (hj:ls[j]?=some y) (hne:j≠i) (hd':E j≠decide (j<i)):disL l y=true:=by
  rcases Nat.lt_or_ge j i with hlt | hge
  · rw [decide_eq_true hlt] at hd'
    refine disL_symm ((hd.pair j i y l hj hl hlt).resolve_left fun ht=>hd' ?_)
    obtain ⟨k1,k2⟩:=hd.bef i o ho
    rw [k1] at ht
    obtain ⟨e,h1,h2,h3⟩:=befO_test ht
    have hEe:=hr e h1 h2
    rcases h3 with h3 | h3
    · rw [← h3]; exact hEe
    · have hlt:=k2 e h1 h2
      have hsz:i<ops.size:=(Array.getElem?_eq_some_iff.1 ho).1
      exact closed_test hd hE (e.on+1) e.on (by omega) (o:=ops[e.on]'(by omega)) (Array.getElem?_eq_getElem _) hEe h3
  · rw [decide_eq_false (by omega)] at hd'
    have hEj:E j=true:=by cases hx:E j with | true=>rfl | false=>exact absurd hx hd'
    refine (hd.pair i j l y hl hj (by omega)).resolve_left fun ht => ?_
    have hsz:j<ops.size:=by rw [← hd.len]; exact (List.getElem?_eq_some_iff.1 hj).1
    have:=closed_test hd hE (j+1) j (by omega) (o:=ops[j]'hsz) (Array.getElem?_eq_getElem hsz) hEj ht
    rw [hi] at this; cases this
def ObjLk (a b:Obj):Prop:=a=b∨∃ (κ ν:Ty) (l l':List (den κ×den ν)),a=.map κ ν l∧b=.map κ ν l'∧∀ i,(mapFind κ ν i l).getD (dft ν)=(mapFind κ ν i l').getD (dft ν)
theorem ObjLk.refl (a:Obj):ObjLk a a:=.inl rfl
theorem ObjLk.symm {a b:Obj} (h:ObjLk a b):ObjLk b a:=by
  rcases h with h | ⟨κ,ν,l,l',h1,h2,h3⟩
  · exact .inl h.symm
  · exact .inr ⟨κ,ν,l',l,h2,h1,fun i=>(h3 i).symm⟩
theorem ObjLk.trans {a b c:Obj} (h:ObjLk a b) (k:ObjLk b c):ObjLk a c:=by
  rcases h with rfl | ⟨κ,ν,l,l',h1,h2,h3⟩
  · exact k
  · rcases k with rfl | ⟨κ2,ν2,m,m',k1,k2,k3⟩
    · exact .inr ⟨κ,ν,l,l',h1,h2,h3⟩
    · rw [h2] at k1
      cases k1
      exact .inr ⟨κ,ν,l,m',h1,k2,fun i=>(h3 i).trans (k3 i)⟩
theorem mapFind_append {κ ν:Ty} (i:den κ) (r:List (den κ×den ν)):(l:List (den κ×den ν))→mapFind κ ν i (l ++ r)=match mapFind κ ν i l with | some v=>some v | none=>mapFind κ ν i r
  | []=>rfl
  | (k,v) :: l=>by
    simp only [List.cons_append,mapFind]
    split
    · rfl
    · exact mapFind_append i r l
theorem mapFind_ent {κ ν:Ty} (i j:den κ) (l:List (den κ×den ν)):(mapFind κ ν i (mapEnt κ ν j l)).getD (dft ν)=(mapFind κ ν i l).getD (dft ν):=by
  unfold mapEnt
  split
  · rfl
  · rw [mapFind_append]
    cases mapFind κ ν i l with
    | some v=>rfl
    | none =>
      simp only [mapFind]
      split <;> rfl
theorem gop_lk {R:Type} {cf:Calls} {s:Nat→SV} {h h':Nat→Obj} {op:GOp} (ho:isLk op=true) (hh:∀ g,ObjLk (h g) (h' g)) {K:SV→Eff→Option R} {r:R} (he:gop cf s h op K=some r):gop cf s h' op K=some r:=by
  cases op with
  | lookup κ0 ν0 m i =>
    simp only [gop] at he ⊢
    split at he
    · rename_i g σ y hm hi
      rcases hh g with e | ⟨κ,ν,l,l',h1,h2,h3⟩
      · rw [← e]; exact he
      · rw [h1] at he
        rw [h2]
        simp only [] at he ⊢
        split at he
        · rw [← h3]; exact he
        · cases he
    · cases he
  | _=>cases ho
theorem mask_lk {ids:List Nat} {h h':Nat→Obj} (hh:∀ g,g∈ids→ObjLk (h g) (h' g)) (g:Nat):ObjLk (mask ids h g) (mask ids h' g):=by
  unfold mask
  cases hb:ids.any (Nat.beq g) with
  | true=>exact hh g (any_beq.1 hb)
  | false=>exact .refl _
theorem Step1.congrLk {cf:Calls} {l:Ln} {s s':Nat→SV} {h h':Nat→Obj} {v:SV} {e:Eff} (hlk:isLk l.op=true) (h1:Step1 cf true l s h v e) (hs:∀ t,t∈usesL l→s t=s' t) (hh:∀ g,g∈l.rd ++ l.wr→ObjLk (h g) (h' g)):Step1 cf true l s' h' v e:=by
  refine Step1.congr (h:=h') ?_ hs (fun _ _=>rfl)
  have hx:Exec cf true l s h v e→Exec cf true l s h' v e:=fun ⟨k1,k2⟩=>by
    refine ⟨k1,?_⟩
    unfold hvw at k2 ⊢
    exact gop_lk hlk (mask_lk hh) k2
  unfold Step1 at h1 ⊢
  cases hg:l.g with
  | none=>rw [hg] at h1; exact hx h1
  | some p =>
    obtain ⟨j,want⟩:=p
    rw [hg] at h1
    simp only [] at h1 ⊢
    rcases h1 with ⟨b,hb,⟨k1,k2⟩ | k1⟩ | h1
    · exact .inl ⟨b,hb,.inl ⟨k1,hx k2⟩⟩
    · exact .inl ⟨b,hb,.inr k1⟩
    · exact .inr h1
theorem Step1.ent {cf:Calls} {l:Ln} {s:Nat→SV} {h:Nat→Obj} {v:SV} {e:Eff} (hl:isEnt l.op=true) (h1:Step1 cf true l s h v e) {g:Nat} (hd:domE e g) (h':Nat→Obj):ObjLk (appE h' e g) (h g):=by
  have h0:e=[]→False:=fun he=>by
    obtain ⟨p,hp,_⟩:=hd
    rw [he] at hp; cases hp
  have hx:Exec cf true l s h v e→ObjLk (appE h' e g) (h g):=fun ⟨_,k2⟩=>by
    unfold hvw at k2
    cases hop:l.op with
    | mapent κ0 ν0 m i =>
      rw [hop] at k2
      simp only [gop] at k2
      split at k2
      · rename_i g1 σ y hm hi
        split at k2
        · rename_i κ ν lm hh
          split at k2
          · rename_i n pl1 pl2 e1 e2 e3
            unfold prE at k2
            simp only [Option.some.injEq,Prod.mk.injEq] at k2
            obtain ⟨rfl,rfl⟩:=k2
            obtain ⟨p,hp,hg⟩:=hd
            rw [List.mem_singleton] at hp
            subst hp
            simp only [] at hg
            subst hg
            have hh':h g1=.map κ ν lm:=by
              unfold mask at hh
              split at hh
              · exact hh
              · cases hh
            rw [hh']
            have:appE h' [(g1,.map κ ν (mapEnt κ ν n lm))] g1=.map κ ν (mapEnt κ ν n lm):=by simp [appE]
            rw [this]
            exact .inr ⟨κ,ν,_,_,rfl,rfl,fun i=>mapFind_ent i n lm⟩
          · cases k2
        · cases k2
      · cases k2
    | _=>rw [hop] at hl; cases hl
  unfold Step1 at h1
  cases hg:l.g with
  | none=>rw [hg] at h1; exact hx h1
  | some p =>
    obtain ⟨j,want⟩:=p
    rw [hg] at h1
    rcases h1 with ⟨b,hb,⟨_,k2⟩ | ⟨_,_,k⟩⟩ | ⟨_,_,k⟩
    · exact hx k2
    · exact absurd k h0
    · exact absurd k h0
theorem exH_soft {g:Nat} {E1 E2:Nat→Bool} (hard:Nat→Prop):(q:List (SV×Eff))→(k:Nat)→(x y z:Nat→Obj)→ObjLk (x g) (z g)→ObjLk (y g) (z g) →
    (∀ m v e,q[m]?=some (v,e)→domE e g→hard (k+m)→E1 (k+m)=E2 (k+m)) →
    (∀ m v e,q[m]?=some (v,e)→domE e g→¬ hard (k+m)→∀ h',ObjLk (appE h' e g) (exH q (fun j=>decide (j<k+m)) k z g)) →
    (∀ i j vi ei vj ej,i<j→q[i]?=some (vi,ei)→q[j]?=some (vj,ej)→domE ei g→domE ej g→hard (k+i)→E1 (k+i)=false→E1 (k+j)=false∧E2 (k+j)=false) →
    ObjLk (exH q E1 k x g) (exH q E2 k y g)
  | [],k,x,y,z,hx,hy,_,_,_=>hx.trans hy.symm
  | (v,e) :: q,k,x,y,z,hx,hy,hA,hB,hC=>by
    have hA':∀ m v e,q[m]?=some (v,e)→domE e g→hard (k+1+m)→E1 (k+1+m)=E2 (k+1+m):=fun m v e hm hd hh=>by
      have:=hA (m+1) v e (by simpa using hm) hd
      rw [show k+(m+1)=k+1+m by omega] at this
      exact this hh
    have hB':∀ m v' e',q[m]?=some (v',e')→domE e' g→¬ hard (k+1+m)→∀ h',ObjLk (appE h' e' g) (exH q (fun j=>decide (j<k+1+m)) (k+1) (appE z e) g):=fun m v' e' hm hd hh h'=>by
      have:=hB (m+1) v' e' (by simpa using hm) hd
      rw [show k+(m+1)=k+1+m by omega] at this
      have:=this hh h'
      simp only [exH] at this
      rw [show decide (k<k+1+m)=true from decide_eq_true (by omega),cond_true] at this
      exact this
    have hC':∀ i j vi ei vj ej,i<j→q[i]?=some (vi,ei)→q[j]?=some (vj,ej)→domE ei g→domE ej g→hard (k+1+i)→E1 (k+1+i)=false→E1 (k+1+j)=false∧E2 (k+1+j)=false:=fun i j vi ei vj ej hij hi hj di dj hh h0=>by
      have:=hC (i+1) (j+1) vi ei vj ej (by omega) (by simpa using hi) (by simpa using hj) di dj
      rw [show k+(i+1)=k+1+i by omega,show k+(j+1)=k+1+j by omega] at this
      exact this hh h0
    simp only [exH]
    by_cases hd:domE e g
    · by_cases hk:hard k
      · have e12:=hA 0 v e rfl hd (by rw [Nat.add_zero]; exact hk)
        rw [Nat.add_zero] at e12
        cases h1:E1 k with
        | true =>
          rw [← e12,h1,cond_true,cond_true]
          refine exH_soft hard q (k+1) _ _ (appE z e) (.inl (appE_dom e _ _ (.inl hd))) (.inl (appE_dom e _ _ (.inl hd))) hA' hB' hC'
        | false =>
          rw [← e12,h1,cond_false,cond_false]
          have off:∀ m v' e',q[m]?=some (v',e')→domE e' g→E1 (k+1+m)=false∧E2 (k+1+m)=false:=fun m v' e' hm hd'=>by
            have:=hC 0 (m+1) v e v' e' (by omega) rfl (by simpa using hm) hd hd' (by rw [Nat.add_zero]; exact hk) (by rw [Nat.add_zero]; exact h1)
            rw [show k+(m+1)=k+1+m by omega] at this
            exact this
          have n1:exH q E1 (k+1) x g=x g:=by
            rw [exH_agree (E2:=fun _=>false) q (k+1) x x rfl (fun m v' e' hm hne hd'=>hne ((off m v' e' hm hd').1)),exH_none _ _ _ (fun _ _=>rfl)]
          have n2:exH q E2 (k+1) y g=y g:=by
            rw [exH_agree (E2:=fun _=>false) q (k+1) y y rfl (fun m v' e' hm hne hd'=>hne ((off m v' e' hm hd').2)),exH_none _ _ _ (fun _ _=>rfl)]
          rw [n1,n2]
          exact hx.trans hy.symm
      · have hz:∀ h',ObjLk (appE h' e g) (z g):=fun h'=>by
          have:=hB 0 v e rfl hd (by rw [Nat.add_zero]; exact hk) h'
          rw [exH_none _ _ _ (fun m hm=>by simp; omega)] at this
          exact this
        have hz':ObjLk (z g) (appE z e g):=(hz z).symm
        refine exH_soft hard q (k+1) _ _ (appE z e) ?_ ?_ hA' hB' hC'
        · cases E1 k with
          | true=>exact (hz x).trans hz'
          | false=>exact hx.trans hz'
        · cases E2 k with
          | true=>exact (hz y).trans hz'
          | false=>exact hy.trans hz'
    · have hz:appE z e g=z g:=appE_nd hd
      refine exH_soft hard q (k+1) _ _ (appE z e) ?_ ?_ hA' hB' hC'
      · rw [hz]
        cases E1 k with
        | true=>rw [cond_true,appE_nd hd]; exact hx
        | false=>exact hx
      · rw [hz]
        cases E2 k with
        | true=>rw [cond_true,appE_nd hd]; exact hy
        | false=>exact hy
theorem any_step (hd:DrawOk ops ls) (hr:Ran cf true ls s h q) {E:Nat→Bool} (hE:Closed ops E) {i:Nat} {o:Oper} (ho:ops[i]?=some o) (hi:E i=false) (hre:∀ e,e∈o.after→Region.binds .any e=true→E e.on=true)
    {l:Ln} (hl:ls[i]?=some l) {E':Nat→Bool} (hE':∀ j,E' j=if j=i then true else E j) :
    ∃ v e,Step1 cf true l (exS ls q E 0 s) (exH q E 0 h) v e∧exS ls q E' 0 s=putF (exS ls q E 0 s) l.d v∧exH q E' 0 h=appE (exH q E 0 h) e:=by
  obtain ⟨r1,r2⟩:=ran_at ls q 0 s h hr
  obtain ⟨v,e,hq,h1⟩:=r2 i l hl
  have dom:∀ (m:Nat) (v':SV) (e':Eff),q[m]?=some (v',e')→∃ y:Ln,ls[m]?=some y∧∀ g,domE e' g→g∈y.wr:=fun m v' e' hm=>by
    have hlt:m<ls.length:=by rw [← r1]; exact (List.getElem?_eq_some_iff.1 hm).1
    obtain ⟨v2,e2,g1,g2⟩:=r2 m ls[m] (List.getElem?_eq_getElem hlt)
    rw [hm] at g1
    cases g1
    exact ⟨_,List.getElem?_eq_getElem hlt,g2.dom⟩
  have hdis:∀ (m:Nat) (y:Ln),ls[m]?=some y→E m≠decide (m<i)→disL l y=true:=fun m y hm hne=>by
    have hmi:m≠i:=fun e=>by subst e; rw [hi] at hne; simp at hne
    exact ready_dis hd hE ho hi hre hl hm hmi hne
  refine ⟨v,e,?_,?_,?_⟩
  · have slots:∀ t,t∈usesL l→exS ls q (fun j=>decide (j<0+i)) 0 s t=exS ls q E 0 s t:=fun t ht=>exS_agree _ _ _ _ _ rfl (fun m y hm hne hdm=>by
      simp only [Nat.zero_add] at hne
      exact (disL_cases (hdis m y hm (Ne.symm hne))).1 t (mem_dLs hdm) ht)
    cases hlk:isLk l.op with
    | false =>
      refine h1.congr slots (fun g hg=>exH_agree _ _ _ _ rfl (fun m v' e' hm hne hdm => ?_))
      simp only [Nat.zero_add] at hne
      obtain ⟨y,hy,hw⟩:=dom m v' e' hm
      rcases (disL_cases (hdis m y hy (Ne.symm hne))).2.2.2 with hc | hc
      · exact hc g (hw g hdm) hg
      · rw [hlk] at hc; cases hc.1
    | true =>
      refine h1.congrLk hlk slots (fun g hg=>ObjLk.symm ?_)
      have hardA:∀ m v' e',q[m]?=some (v',e')→domE e' g→(∃ y:Ln,ls[m]?=some y∧isEnt y.op=false)→E m=decide (m<i):=fun m v' e' hm hdm ⟨y,hy,hent⟩=>by
        by_cases hne:E m=decide (m<i)
        · exact hne
        · exfalso
          obtain ⟨y2,hy2,hw⟩:=dom m v' e' hm
          rw [hy] at hy2
          cases hy2
          rcases (disL_cases (hdis m y hy hne)).2.2.2 with hc | hc
          · exact hc g (hw g hdm) hg
          · rw [hent] at hc; cases hc.2
      refine exH_soft (fun m=>∃ y:Ln,ls[m]?=some y∧isEnt y.op=false) q 0 h h h (.refl _) (.refl _) (fun m v' e' hm hdm hh => ?_) (fun m v' e' hm hdm hh h' => ?_) (fun i1 j1 vi ei vj ej hij hi1 hj1 di dj hh h0 => ?_)
      · simp only [Nat.zero_add] at hh ⊢
        exact hardA m v' e' hm hdm hh
      · simp only [Nat.zero_add] at hh
        have hlt:m<ls.length:=by rw [← r1]; exact (List.getElem?_eq_some_iff.1 hm).1
        obtain ⟨v2,e2,g1,g2⟩:=r2 m ls[m] (List.getElem?_eq_getElem hlt)
        rw [hm] at g1
        cases g1
        refine Step1.ent ?_ g2 hdm h'
        cases hent:isEnt (ls[m]).op with
        | true=>rfl
        | false=>exact absurd ⟨_,List.getElem?_eq_getElem hlt,hent⟩ hh
      · simp only [Nat.zero_add] at hh h0 ⊢
        have ha:=hardA i1 vi ei hi1 di hh
        rw [h0] at ha
        have hge:i≤i1:=by
          have:=of_decide_eq_false ha.symm
          omega
        refine ⟨?_,decide_eq_false (by omega)⟩
        cases hEj:E j1 with
        | false=>rfl
        | true =>
          exfalso
          obtain ⟨yi,hyi,hwi⟩:=dom i1 vi ei hi1
          obtain ⟨yj,hyj,hwj⟩:=dom j1 vj ej hj1
          have hsz:j1<ops.size:=by rw [← hd.len]; exact (List.getElem?_eq_some_iff.1 hyj).1
          rcases hd.pair i1 j1 yi yj hyi hyj hij with ht | ht
          · have:=closed_test hd hE (j1+1) j1 (by omega) (o:=ops[j1]'hsz) (Array.getElem?_eq_getElem hsz) hEj ht
            rw [h0] at this; cases this
          · exact (disL_cases ht).2.2.1 g (hwi g di) (hwj g dj)
  · funext t
    unfold putF
    by_cases ht:l.d=some t
    · rw [if_pos ht]
      refine exS_last (i:=i) ls q 0 i s hl hq (by rw [hE']; simp) ht (fun m' l' hm hl' hEm hdm => ?_)
      rw [hE',if_neg (by omega)] at hEm
      simp only [Nat.zero_add] at hEm
      exact (disL_cases (hdis m' l' hl' (by rw [hEm,decide_eq_false (by omega)]; simp))).2.1 t (mem_dLs ht) (mem_dLs hdm)
    · rw [if_neg ht]
      refine exS_agree _ _ _ _ _ rfl (fun m y hm hne hdm => ?_)
      simp only [Nat.zero_add] at hne
      rw [hE'] at hne
      by_cases hmi:m=i
      · subst hmi; rw [hl] at hm; cases hm; exact ht hdm
      · rw [if_neg hmi] at hne; exact hne rfl
  · funext g
    by_cases hg:domE e g
    · refine exH_last q 0 i h hq (by rw [hE']; simp) hg (fun m' v' e' hm hq' hEm hdm => ?_)
      rw [hE',if_neg (by omega)] at hEm
      simp only [Nat.zero_add] at hEm
      obtain ⟨y,hy,hw⟩:=dom m' v' e' hq'
      have:=(disL_cases (hdis m' y hy (by rw [hEm,decide_eq_false (by omega)]; simp))).2.2.1
      obtain ⟨y2,hy2,hw2⟩:=dom i v e hq
      rw [hl] at hy2
      cases hy2
      exact this g (hw2 g hg) (hw g hdm)
    · rw [appE_nd hg]
      refine exH_agree _ _ _ _ rfl (fun m v' e' hm hne hdm => ?_)
      simp only [Nat.zero_add] at hne
      rw [hE'] at hne
      by_cases hmi:m=i
      · subst hmi; rw [hq] at hm; cases hm; exact hg hdm
      · rw [if_neg hmi] at hne; exact hne rfl
theorem all_listed (hd:DrawOk ops ls) {listed:Array Bool} (hz:listed.size=ops.size) (hr:Region.ready .any ops listed=[]):∀ n j,j<n→j<ops.size→listed.getD j false=true
  | 0,j,hj,_=>by omega
  | n+1,j,hj,hsz=>by
    cases hx:listed.getD j false with
    | true=>rfl
    | false =>
      have:j∈Region.ready .any ops listed:=by
        rw [mem_ready]
        refine ⟨?_,ops[j],Array.getElem?_eq_getElem hsz,fun e he hb => ?_⟩
        · rw [Array.getD_eq_getD_getElem?,Array.getElem?_eq_getElem (by omega)] at hx ⊢
          simpa using hx
        · have:=(hd.bef j ops[j] (Array.getElem?_eq_getElem hsz)).2 e he hb
          exact all_listed hd hz hr n e.on (by omega) (by omega)
      rw [hr] at this
      cases this
theorem any_ok (hcf:CallOk P cf) (hc:∀ (m:Nat) (l:Ln),ls[m]?=some l→∃ o,ops[m]?=some o∧chkLn P N ops l o=true) (hd:DrawOk ops ls) (hr:Ran cf true ls s h q)
    (hQ:∀ a' w',Is N B w0 (endS ls q s) (endH q h) a' w'→Q .normal a' w'):(fuel:Nat)→(listed:Array Bool)→(a:Act)→(w:World)→listed.size=ops.size→Closed ops (fun j=>listed.getD j false)→listed.toList.count false≤fuel →
    Is N B w0 (exS ls q (fun j=>listed.getD j false) 0 s) (exH q (fun j=>listed.getD j false) 0 h) a w→wpAny P .any ops Q fuel listed a w:=by
  obtain ⟨r1,_⟩:=ran_at ls q 0 s h hr
  have done:∀ (listed:Array Bool) (a:Act) (w:World),listed.size=ops.size→Is N B w0 (exS ls q (fun j=>listed.getD j false) 0 s) (exH q (fun j=>listed.getD j false) 0 h) a w→Region.ready .any ops listed=[]→Q .normal a w:=fun listed a w hz hs hre=>by
    have hall:=fun j hj=>all_listed hd hz hre (j+1) j (by omega) hj
    rw [exS_all ls q 0 s (fun m hm=>by rw [Nat.zero_add]; exact hall m (by rw [← hd.len,← r1]; exact hm)),exH_all q 0 h (fun m hm=>by rw [Nat.zero_add]; exact hall m (by rw [← hd.len,← r1]; exact hm))] at hs
    exact hQ a w hs
  intro fuel
  induction fuel with
  | zero =>
    intro listed a w hz hcl hct hs
    have h0:false ∉ listed.toList:=List.count_eq_zero.1 (by omega)
    have hre:Region.ready .any ops listed=[]:=by
      apply List.eq_nil_iff_forall_not_mem.2
      intro i hi
      rw [mem_ready] at hi
      obtain ⟨k1,o,ho,_⟩:=hi
      have hlt:i<listed.size:=by rw [hz]; exact (Array.getElem?_eq_some_iff.1 ho).1
      rw [Array.getD_eq_getD_getElem?,Array.getElem?_eq_getElem hlt] at k1
      simp at k1
      exact h0 (by rw [← k1]; simp)
    exact ⟨hre,done listed a w hz hs hre⟩
  | succ fuel ih =>
    intro listed a w hz hcl hct hs
    refine ⟨done listed a w hz hs,fun i hi => ?_⟩
    rw [mem_ready] at hi
    obtain ⟨k1,o,ho,k2⟩:=hi
    have hlt:i<listed.size:=by rw [hz]; exact (Array.getElem?_eq_some_iff.1 ho).1
    have k0:listed[i]=false:=by
      rw [Array.getD_eq_getD_getElem?,Array.getElem?_eq_getElem hlt] at k1
      simpa using k1
    have k3:listed.getD i false=false:=by
      rw [Array.getD_eq_getD_getElem?,Array.getElem?_eq_getElem hlt]; simpa using k0
    have hll:i<ls.length:=by rw [hd.len,← hz]; exact hlt
    have hl:=List.getElem?_eq_getElem hll
    obtain ⟨o',ho',hco⟩:=hc i _ hl
    rw [ho] at ho'
    cases ho'
    have hset:∀ j,(listed.setIfInBounds i true).getD j false=if j=i then true else listed.getD j false:=fun j=>by
      rw [Array.getD_eq_getD_getElem?,Array.getD_eq_getD_getElem?]
      by_cases hj:j=i
      · subst hj; simp [hlt]
      · rw [if_neg hj,Array.getElem?_setIfInBounds_ne (Ne.symm hj)]
    obtain ⟨v,e,m1,m2,m3⟩:=any_step hd hr hcl ho k3 k2 hl hset
    refine step_is ho hs hcf hco m1 (fun a' w' hs'=>ih _ a' w' (by simpa using hz) (fun j oj hj hEj e' he' hb' => ?_) ?_ ?_)
    · simp only [hset] at hEj ⊢
      by_cases hji:j=i
      · subst hji
        rw [ho] at hj
        cases hj
        split
        · rfl
        · exact k2 e' he' hb'
      · rw [if_neg hji] at hEj
        split
        · rfl
        · exact hcl j oj hj hEj e' he' hb'
    · rw [Array.toList_setIfInBounds,List.count_set (by simpa using hlt)]
      simp only [Array.getElem_toList,k0]
      have:0<listed.toList.count false:=List.count_pos_iff.2 (by rw [← k0]; simp)
      have e1:(false == false)=true:=rfl
      have e2:(true == false)=false:=rfl
      rw [e1,e2,if_pos rfl,if_neg (by simp)]
      omega
    · rw [m2,m3]; exact hs'
end
end Go.Proofs.YtjobjooccgledaaDoor.Ghost
namespace Go.Proofs.YtjobjooccgledaaDoor.Ghost
open Go
section
variable {A:Nat→Prop} {ρ ρ':Refs} {own own':Nat→Option Nat} {w:World} {B N:Nat} {w0:Start} {p:Nat→Bool} {f:Nat→Nat}
theorem RepEnts.noRef {κ ν:Ty}:{l:List (den κ×den ν)}→{es:List MapEntry}→RepEnts A ρ w κ ν l es→RepEnts A ρ' w κ ν l es
  | [],_,h=>by simpa only [RepEnts] using h
  | (k,v) :: r,_,h=>by
    simp only [RepEnts] at h ⊢
    obtain ⟨e,es',h1,⟨c1,h2,h3⟩,⟨c2,h4,h5⟩,h6⟩:=h
    exact ⟨e,es',h1,⟨c1,RepC.noRef h2,h3⟩,⟨c2,RepC.noRef h4,h5⟩,RepEnts.noRef h6⟩
theorem getV_junk {u:SV} {f:Nat→Nat} (h:u≠.junk):mapI f u≠.junk:=by cases u <;> simp_all [mapI]
mutual
theorem getV_mapI (f:Nat→Nat):(u:SV)→(p:Path)→getV (mapI f u) p=(getV u p).map (mapI f)
  | u,[]=>by cases u <;> rfl
  | .agv vs,i :: p=>by
    simp only [mapI,getV]
    exact getVL_mapI f vs i p
  | .dat _ _ _,_ :: _=>rfl
  | .ptr _ _,_ :: _=>rfl
  | .ref _ _,_ :: _=>rfl
  | .refv _,_ :: _=>rfl
  | .selfc _ _,_ :: _=>rfl
  | .glo _,_ :: _=>rfl
  | .elp _ _ _,_ :: _=>rfl
  | .clo _ _,_ :: _=>rfl
  | .tup _,_ :: _=>rfl
  | .slv _,_ :: _=>rfl
  | .fmap _ _,_ :: _=>rfl
  | .nilfn,_ :: _=>rfl
  | .und,_ :: _=>rfl
  | .junk,_ :: _=>rfl
theorem getVL_mapI (f:Nat→Nat):(us:List SV)→(i:Nat)→(p:Path)→getV.getVL (mapIL f us) i p=(getV.getVL us i p).map (mapI f)
  | [],_,_=>rfl
  | u :: r,0,p=>by simp only [mapIL,getV.getVL]; exact getV_mapI f u p
  | u :: r,n+1,p=>by simp only [mapIL,getV.getVL]; exact getVL_mapI f r n p
end
mutual
theorem offV_mapI (f:Nat→Nat):(u:SV)→(p:Path)→offV (mapI f u) p=offV u p
  | .agv vs,i :: p=>by
    simp only [mapI,offV]
    exact offVL_mapI f vs i p
  | .agv vs,[]=>rfl
  | .dat _ _ _,_=>rfl
  | .ptr _ _,_=>rfl
  | .ref _ _,_=>rfl
  | .refv _,_=>rfl
  | .selfc _ _,_=>rfl
  | .glo _,_=>rfl
  | .elp _ _ _,_=>rfl
  | .clo _ _,_=>rfl
  | .tup _,_=>rfl
  | .slv _,_=>rfl
  | .fmap _ _,_=>rfl
  | .nilfn,_=>rfl
  | .und,_=>rfl
  | .junk,_=>rfl
theorem offVL_mapI (f:Nat→Nat):(us:List SV)→(i:Nat)→(p:Path)→offVL (mapIL f us) i p=offVL us i p
  | [],_,_=>rfl
  | u :: r,0,p=>by simp only [mapIL,offVL]; exact offV_mapI f u p
  | u :: r,n+1,p=>by simp only [mapIL,offVL,svSize_mapI,offVL_mapI f r n p]
end
theorem RepO.names (hf:∀ g s,p g=true→ρ g=some s→ρ' (f g)=some s) {g g':Nat} (hg:ρ' g'=ρ g) (ho:∀ b,own b=some g→own' b=some g'):(o:Obj)→allIO p o=true→RepO A ρ own w g o→RepO A ρ' own' w g' (mapIO f o)
  | .box τ x ov,hp,h=>by
    simp only [RepO,RepBox,mapIO] at h ⊢
    obtain ⟨s,cs,h1,h2,h3,h4,⟨m1,m2⟩,h5⟩:=h
    exact ⟨s,cs,by rw [hg]; exact h1,h2,h3,h4,⟨ho _ m1,m2⟩,RepC.names hf τ hp h5⟩
  | .boxv u,hp,h=>by
    simp only [RepO,RepBoxV,mapIO] at h ⊢
    obtain ⟨s,cs,h1,h2,h3,h4,h6,⟨m1,m2⟩,h5⟩:=h
    exact ⟨s,cs,by rw [hg]; exact h1,h2,by rw [h3]; funext q; rw [offV_mapI],by rw [h4]; funext q; unfold okV; rw [getV_mapI]; cases getV u q <;> simp,getV_junk h6,⟨ho _ m1,m2⟩,RepV.names hf u hp h5⟩
  | .fbox τ x ov,hp,h=>by
    simp only [RepO,RepBox,mapIO] at h ⊢
    obtain ⟨s,cs,h1,h2,h3,h4,m,h5⟩:=h
    exact ⟨s,cs,by rw [hg]; exact h1,h2,h3,h4,m,RepC.names hf τ hp h5⟩
  | .fboxv u,hp,h=>by
    simp only [RepO,RepBoxV,mapIO] at h ⊢
    obtain ⟨s,cs,h1,h2,h3,h4,h6,m,h5⟩:=h
    exact ⟨s,cs,by rw [hg]; exact h1,h2,by rw [h3]; funext q; rw [offV_mapI],by rw [h4]; funext q; unfold okV; rw [getV_mapI]; cases getV u q <;> simp,getV_junk h6,m,RepV.names hf u hp h5⟩
  | .arr e l,_,h=>by
    simp only [RepO,RepArr,mapIO] at h ⊢
    obtain ⟨s,h1,h2,h3,h4,h5,h6,h7,h8,h9⟩:=h
    refine ⟨s,by rw [hg]; exact h1,h2,h3,h4,h5,h6,h7,h8,fun hc => ?_⟩
    obtain ⟨cs,k1,⟨m1,m2⟩,k2⟩:=h9 hc
    exact ⟨cs,k1,⟨ho _ m1,m2⟩,fun i hi=>RepC.noRef (k2 i hi)⟩
  | .frz e l,_,h=>by
    simp only [RepO,RepArr,mapIO] at h ⊢
    obtain ⟨s,h1,h2,h3,h4,h5,h6,h7,h8,h9⟩:=h
    refine ⟨s,by rw [hg]; exact h1,h2,h3,h4,h5,h6,h7,h8,fun hc => ?_⟩
    obtain ⟨cs,k1,m,k2⟩:=h9 hc
    exact ⟨cs,k1,m,fun i hi=>RepC.noRef (k2 i hi)⟩
  | .map κ ν l,_,h=>by
    simp only [RepO,mapIO] at h ⊢
    obtain ⟨s,es,c,h1,h2,h3,h4,h5,h6,h7⟩:=h
    exact ⟨s,es,c,by rw [hg]; exact h1,h2,ho _ h3,h4,h5,RepEnts.noRef h6,h7⟩
  | .hid,_,_=>trivial
  | .dead,_,_=>trivial
  | .none,_,h=>by simp only [RepO,mapIO] at h ⊢; rw [hg]; exact h
theorem mapIO_none {o:Obj} (h:o≠.none):mapIO f o≠.none:=by cases o <;> simp_all [mapIO]
theorem St.rename {h h':Nat→Obj} (st:St B w0 A ρ own w h) (hf:∀ g s,p g=true→ρ g=some s→ρ' (f g)=some s)
    (hg:∀ g',(h' g'=.none∧ρ' g'=none)∨∃ g,ρ' g'=ρ g∧h' g'=mapIO f (h g)∧allIO p (h g)=true∧∀ b,own b=some g→own' b=some g')
    (ho:∀ b g',own' b=some g'→∃ g,own b=some g):St B w0 A ρ' own' w h' where
  glob:=st.glob
  objs g':=by
    rcases hg g' with ⟨h1,h2⟩ | ⟨g,h1,h2,h3,h4⟩
    · rw [h1]; exact h2
    · rw [h2]; exact RepO.names hf h1 h4 _ h3 (st.objs g)
  apart b g' h1:=(ho b g' h1).elim fun g h2=>st.apart b g h2
  old:=st.old
  oldO b g' h1:=(ho b g' h1).elim fun g h2=>st.oldO b g h2
  base b g' h1:=(ho b g' h1).elim fun g h2=>st.base b g h2
  below:=st.below
  hB:=st.hB
  imm:=st.imm
  names g':=by
    rintro ⟨s,hs⟩
    rcases hg g' with ⟨h1,h2⟩ | ⟨g,h1,h2,h3,h4⟩
    · rw [h2] at hs; cases hs
    · rw [h2]
      exact mapIO_none (st.names g ⟨s,by rw [← h1]; exact hs⟩)
theorem allIS_get:{s:Slots}→allIS p s=true→∀ i,allI p (getS s i)=true
  | [],_,i=>rfl
  | (j,v) :: r,h,i=>by
    simp only [allIS,Bool.and_eq_true] at h
    simp only [getS]
    cases Nat.beq j i with
    | true=>exact h.1
    | false=>exact allIS_get h.2 i
theorem getS_mapIS:(s:Slots)→(i:Nat)→getS (mapIS f s) i=mapI f (getS s i)
  | [],i=>rfl
  | (j,v) :: r,i=>by
    simp only [mapIS,getS]
    cases Nat.beq j i with
    | true=>rfl
    | false=>exact getS_mapIS r i
theorem getS_killS {k:List Nat}:(s:Slots)→(i:Nat)→getS (killS k s) i=getS s i∨getS (killS k s) i=.junk
  | [],i=>.inl rfl
  | (j,v) :: r,i=>by
    simp only [killS]
    cases hk:k.any (Nat.beq j) with
    | true =>
      simp only [getS]
      cases hj:Nat.beq j i with
      | true =>
        have:=Nat.eq_of_beq_eq_true hj
        subst this
        right
        have:∀ r:Slots,getS (killS k r) j=.junk:=fun r=>by
          induction r with
          | nil=>rfl
          | cons q r ih =>
            obtain ⟨j',v'⟩:=q
            simp only [killS]
            cases hk':k.any (Nat.beq j') with
            | true=>exact ih
            | false =>
              simp only [getS]
              cases hb:Nat.beq j' j with
              | true=>rw [Nat.eq_of_beq_eq_true hb] at hk'; rw [hk] at hk'; cases hk'
              | false=>exact ih
        exact this r
      | false=>exact getS_killS r i
    | false =>
      simp only [getS]
      cases Nat.beq j i with
      | true=>exact .inl rfl
      | false=>exact getS_killS r i
theorem getO_map {F:Obj→Obj} (hF:F .none=.none):(h:Heap)→(g:Nat)→getO (h.map F) g=F (getO h g)
  | [],g=>by simp [getO,hF]
  | o :: r,0=>rfl
  | o :: r,g+1=>by simp only [List.map_cons,getO]; exact getO_map hF r g
theorem getO_take:(h:Heap)→(n g:Nat)→getO (h.take n) g=if g<n then getO h g else .none
  | [],n,g=>by simp [getO]
  | o :: r,0,g=>by simp [getO]
  | o :: r,n+1,0=>by simp [getO]
  | o :: r,n+1,g+1=>by simp only [List.take_succ_cons,getO,getO_take r n g,Nat.add_lt_add_iff_right]
theorem allIH_get:{h:Heap}→allIH p h=true→∀ g,allIO p (getO h g)=true
  | [],_,g=>rfl
  | o :: r,h,0=>by
    simp only [allIH,Bool.and_eq_true] at h
    exact h.1
  | o :: r,h,g+1=>by
    simp only [allIH,Bool.and_eq_true] at h
    exact allIH_get h.2 g
theorem mapIO_id (o:Obj):mapIO id o=o:=by cases o <;> simp [mapIO,mapOv_id,mapI_id]
theorem neI_ne {n g:Nat} (h:neI n g=true):g≠n:=fun e=>by subst e; simp [neI] at h
theorem rnId_eq {a b g:Nat}:rnId a b g=if g=a then b else g:=by
  unfold rnId
  cases h:Nat.beq g a with
  | true=>rw [if_pos (Nat.eq_of_beq_eq_true h)]
  | false=>rw [if_neg (Nat.ne_of_beq_eq_false h)]
theorem is_names {s s':Slots} {h h':Heap} {a:Act} {w:World} {ρ':Refs→Refs} {own':(Nat→Option Nat)→Nat→Option Nat} (hs:Is N B w0 (getS s) (getO h) a w) (ha:allIS p s=true)
    (hf:∀ (ρ:Refs) g s,p g=true→ρ g=some s→(ρ' ρ) (f g)=some s) (hs':∀ i,getS s' i=mapI f (getS s i))
    (hg:∀ (ρ:Refs) (own:Nat→Option Nat) g',(getO h' g'=.none∧(ρ' ρ) g'=none)∨∃ g,(ρ' ρ) g'=ρ g∧getO h' g'=mapIO f (getO h g)∧allIO p (getO h g)=true∧∀ b,own b=some g→(own' own) b=some g')
    (ho:∀ (own:Nat→Option Nat) b g',(own' own) b=some g'→∃ g,own b=some g):Is N B w0 (getS s') (getO h') a w:=by
  obtain ⟨A,ρ,own,st,sl,sz,df⟩:=hs
  exact ⟨A,ρ' ρ,own' own,St.rename st (hf ρ) (hg ρ own) (ho own),fun i=>by rw [hs']; exact RepV.names (hf ρ) _ (allIS_get ha i) (sl i),sz,df⟩
theorem is_drop {s:Slots} {h:Heap} {a:Act} {w:World} {g:Nat} (hs:Is N B w0 (getS s) (getO h) a w) (ha:allIS (neI g) s=true) (hh:allIH (neI g) h=true):Is N B w0 (getS s) (getO (setO h g .none)) a w:=by
  refine is_names (p:=neI g) (f:=id) (ρ':=fun ρ i=>if i=g then none else ρ i) (own':=fun own b=>match own b with | some i=>if i=g then none else some i | none=>none) hs ha ?_ (fun i=>by rw [mapI_id]) ?_ ?_
  · intro ρ i s hi hρ
    simp only [id]
    rw [if_neg (neI_ne hi)]; exact hρ
  · intro ρ own i
    rw [getO_setO]
    by_cases hi:i=g
    · exact .inl ⟨if_pos hi,if_pos hi⟩
    · refine .inr ⟨i,if_neg hi,by rw [if_neg hi,mapIO_id],allIH_get hh i,fun b hb => ?_⟩
      simp only [hb]; rw [if_neg hi]
  · intro own b i hb
    cases ho:own b with
    | none=>simp [ho] at hb
    | some j=>exact ⟨j,rfl⟩
theorem is_trunc {s:Slots} {h:Heap} {a:Act} {w:World} {n:Nat} (hs:Is N B w0 (getS s) (getO h) a w) (ha:allIS (ltI n) s=true) (hh:allIH (ltI n) (h.take n)=true):Is N B w0 (getS s) (getO (h.take n)) a w:=by
  have hlt:∀ g,ltI n g=true↔g<n:=fun g=>by unfold ltI; rw [Nat.blt_eq]
  refine is_names (p:=ltI n) (f:=id) (ρ':=fun ρ i=>if i<n then ρ i else none) (own':=fun own b=>match own b with | some i=>if i<n then some i else none | none=>none) hs ha ?_ (fun i=>by rw [mapI_id]) ?_ ?_
  · intro ρ i s hi hρ
    simp only [id]
    rw [if_pos ((hlt i).1 hi)]; exact hρ
  · intro ρ own i
    have hg:=allIH_get hh i
    rw [getO_take] at hg ⊢
    by_cases hi:i<n
    · rw [if_pos hi] at hg
      refine .inr ⟨i,if_pos hi,by rw [if_pos hi,mapIO_id],hg,fun b hb => ?_⟩
      simp only [hb]; rw [if_pos hi]
    · exact .inl ⟨if_neg hi,if_neg hi⟩
  · intro own b i hb
    cases ho:own b with
    | none=>simp [ho] at hb
    | some j=>exact ⟨j,rfl⟩
theorem is_move {s:Slots} {h:Heap} {a:Act} {w:World} {x y:Nat} (hs:Is N B w0 (getS s) (getO h) a w) (ha:allIS (neI y) s=true) (hh:allIH (neI y) h=true) (hne:x≠y) :
    Is N B w0 (getS (mapIS (rnId x y) s)) (getO (setO (setO (h.map (mapIO (rnId x y))) y (getO (h.map (mapIO (rnId x y))) x)) x .none)) a w:=by
  refine is_names (p:=neI y) (f:=rnId x y) (ρ':=fun ρ i=>if i=x then none else if i=y then ρ x else ρ i) (own':=fun own b=>match own b with | some i=>if i=y then none else some (rnId x y i) | none=>none) hs ha ?_ (fun i=>getS_mapIS s i) ?_ ?_
  · intro ρ i s hi hρ
    have:=neI_ne hi
    rw [rnId_eq]
    by_cases hix:i=x
    · subst hix
      rw [if_pos rfl,if_neg (Ne.symm hne),if_pos rfl]; exact hρ
    · rw [if_neg hix,if_neg hix,if_neg this]; exact hρ
  · intro ρ own i
    rw [getO_setO,getO_setO,getO_map rfl,getO_map rfl]
    by_cases hi:i=x
    · exact .inl ⟨if_pos hi,if_pos hi⟩
    · rw [if_neg hi,if_neg hi]
      by_cases hy:i=y
      · subst hy
        rw [if_pos rfl,if_pos rfl]
        refine .inr ⟨x,rfl,rfl,allIH_get hh x,fun b hb => ?_⟩
        simp only [hb]; rw [if_neg hne,rnId_eq,if_pos rfl]
      · rw [if_neg hy,if_neg hy]
        refine .inr ⟨i,rfl,rfl,allIH_get hh i,fun b hb => ?_⟩
        simp only [hb]; rw [if_neg hy,rnId_eq,if_neg hi]
  · intro own b i hb
    cases ho:own b with
    | none=>simp [ho] at hb
    | some j=>exact ⟨j,rfl⟩
theorem is_kill {s:Slots} {h:Heap} {a:Act} {w:World} {k:List Nat} (hs:Is N B w0 (getS s) (getO h) a w):Is N B w0 (getS (killS k s)) (getO h) a w:=by
  obtain ⟨A,ρ,own,st,sl,sz,df⟩:=hs
  refine ⟨A,ρ,own,st,fun i => ?_,sz,df⟩
  rcases getS_killS (k:=k) s i with e | e
  · rw [e]; exact sl i
  · rw [e]; simp only [RepV]
section
variable {R:Type} {r:R} {K:Slots→Heap→Option R} {a:Act} {w:World}
theorem movesG_ok:(mv:List (Nat×Nat))→{s:Slots}→{h:Heap}→Is N B w0 (getS s) (getO h) a w→movesG mv s h K=some r→∃ s' h',Is N B w0 (getS s') (getO h') a w∧K s' h'=some r
  | [],s,h,hs,hr=>⟨s,h,hs,hr⟩
  | (x,y) :: l,s,h,hs,hr=>by
    simp only [movesG,moveG] at hr
    split at hr
    · exact movesG_ok l hs hr
    · split at hr
      · rename_i hc
        simp only [Bool.and_eq_true,Bool.not_eq_true'] at hc
        exact movesG_ok l (is_move hs hc.1.1 hc.1.2 (Nat.ne_of_beq_eq_false hc.2)) hr
      · cases hr
theorem dropsG_ok:(l:List Nat)→{s:Slots}→{h:Heap}→Is N B w0 (getS s) (getO h) a w→dropsG l s h K=some r→∃ s' h',Is N B w0 (getS s') (getO h') a w∧K s' h'=some r
  | [],s,h,hs,hr=>⟨s,h,hs,hr⟩
  | g :: l,s,h,hs,hr=>by
    simp only [dropsG] at hr
    split at hr
    · exact dropsG_ok l hs hr
    · split at hr
      · rename_i hc
        simp only [Bool.and_eq_true] at hc
        exact dropsG_ok l (is_drop hs hc.1 hc.2) hr
      · cases hr
theorem truncG_ok {n:Option Nat} {s:Slots} {h:Heap} (hs:Is N B w0 (getS s) (getO h) a w) (hr:truncG n s h K=some r):∃ s' h',Is N B w0 (getS s') (getO h') a w∧K s' h'=some r:=by
  cases n with
  | none=>exact ⟨s,h,hs,hr⟩
  | some n =>
    simp only [truncG] at hr
    split at hr
    · rename_i hc
      simp only [Bool.and_eq_true] at hc
      exact ⟨s,_,is_trunc hs hc.1 hc.2,hr⟩
    · cases hr
end
end
end Go.Proofs.YtjobjooccgledaaDoor.Ghost
namespace Go.Proofs.YtjobjooccgledaaDoor.Ghost
open Go
def chkLns (P:Program) (N:Nat) (ops:Array Oper):List Ln→List Oper→Bool
  | [],[]=>true
  | l :: r,o :: s=>chkLn P N ops l o && chkLns P N ops r s
  | _,_=>false
def isTidy:Cd→Bool
  | .tidy _ _ _ _=>true
  | .frz _=>true
  | _=>false
def seqC (f g:Code→Bool):Code→Bool
  | .seq x y=>f x && g y
  | _=>false
def chkCd (P:Program) (N:Nat):Cd→Code→Bool
  | .skip,.skip=>true
  | .reg d l,.region _ ops d'=>(d == d') && chkLns P N ops l ops.toList && (bif d then chkDraw ops.toList l else true)
  | .seq a b,c=>bif isTidy b then chkCd P N a c else bif isTidy a then chkCd P N b c else seqC (chkCd P N a) (chkCd P N b) c
  | .cond c a b,.cond c' x y=>chkOpd c c' && chkCd P N a x && chkCd P N b y
  | .block i a,.block j x=>Nat.beq i j && chkCd P N a x
  | .loop a,.loop x=>chkCd P N a x
  | .exit i,.exit j=>Nat.beq i j
  | .ret,.ret=>true
  | _,_=>false
theorem chkLns_spec {P:Program} {N:Nat} {ops:Array Oper}:(l:List Ln)→(s:List Oper)→chkLns P N ops l s=true→l.length=s.length∧∀ (m:Nat) (x:Ln),l[m]?=some x→∃ o,s[m]?=some o∧chkLn P N ops x o=true
  | [],[],_=>⟨rfl,fun m x h=>by simp at h⟩
  | [],_ :: _,h=>by cases h
  | _ :: _,[],h=>by cases h
  | l :: r,o :: s,h=>by
    simp only [chkLns,Bool.and_eq_true] at h
    obtain ⟨i1,i2⟩:=chkLns_spec r s h.2
    refine ⟨by simp [i1],fun m x hm => ?_⟩
    cases m with
    | zero=>simp at hm; subst hm; exact ⟨o,rfl,h.1⟩
    | succ m=>simpa using i2 m x (by simpa using hm)
def exQ:Ex→Exit
  | .norm=>.normal
  | .exit id=>.exit id
  | .ret=>.ret
section
variable {P:Program} {B N:Nat} {w0:Start} {cf:Calls} {R:Type} {r:R}
def KtOk (N B:Nat) (w0:Start) (r:R) (K:Kt R) (e:Ex) (Q:Exit→Act→World→Prop):Prop:=∀ s h a w,K e s h=some r→Is N B w0 (getS s) (getO h) a w→Q (exQ e) a w
theorem is_drawn {s:Nat→SV} {h:Nat→Obj} {a:Act} {w:World} (hs:Is N B w0 s h a w):Is N B w0 s h a { w with drawn:=w.drawn+1 }:=by
  obtain ⟨A,ρ,own,st,sl,sz,df⟩:=hs
  have hl:Later A ρ w A ρ { w with drawn:=w.drawn+1 }:=⟨fun _ h=>h,fun _ _ h=>h,fun _ _=>rfl⟩
  refine ⟨A,ρ,own,st.turn (fun _=>False) hl (fun _ _ _ _=>rfl) (fun _ _ h _=>h) (fun _ _ h=>h) (fun _ _=>rfl) (fun _ h=>h.elim) (fun _ h=>h.elim) st.apart st.old st.oldO st.base ⟨rfl,rfl,rfl,Nat.le_refl _,fun _ _=>rfl⟩ (fun _ h=>.inl h),fun i=>hl.repV (sl i),sz,df⟩
theorem tidy_of {c:Cd} (h:isTidy c=true):(∃ k m d t,c=.tidy k m d t)∨∃ ids,c=.frz ids:=by
  cases c with
  | tidy k m d t=>exact .inl ⟨k,m,d,t,rfl⟩
  | frz ids=>exact .inr ⟨ids,rfl⟩
  | _=>cases h
theorem tidy_run0 {lp:Nat} {k:List Nat} {mv:List (Nat×Nat)} {d:List Nat} {t:Option Nat} {Kn K:Kt R} {s:Slots} {h:Heap} {a:Act} {w:World} (hs:Is N B w0 (getS s) (getO h) a w)
    (hr:run cf lp (.tidy k mv d t) Kn K s h=some r):∃ s' h',Is N B w0 (getS s') (getO h') a w∧Kn .norm s' h'=some r:=by
  simp only [run] at hr
  obtain ⟨s1,h1,k1,k2⟩:=movesG_ok mv (is_kill hs) hr
  obtain ⟨s2,h2,k3,k4⟩:=dropsG_ok d k1 k2
  exact truncG_ok k3 k4
theorem tidy_run {lp:Nat} {c:Cd} (hc:isTidy c=true) {Kn K:Kt R} {s:Slots} {h:Heap} {a:Act} {w:World} (hs:Is N B w0 (getS s) (getO h) a w)
    (hr:run cf lp c Kn K s h=some r):∃ s' h',Is N B w0 (getS s') (getO h') a w∧Kn .norm s' h'=some r:=by
  rcases tidy_of hc with ⟨k,m,d,t,rfl⟩ | ⟨ids,rfl⟩
  · exact tidy_run0 hs hr
  · simp only [run] at hr
    split at hr
    · rename_i es hes
      obtain ⟨A,ρ,own,st,sl,sz,df⟩:=hs
      obtain ⟨st2,l2⟩:=St.freezeL st hes
      exact ⟨s,_,⟨_,ρ,_,by rw [getO_applyE]; exact st2,fun i=>l2.repV (sl i),sz,df⟩,hr⟩
    · cases hr
theorem code_ok (hcf:CallOk P cf) (hm:P.follows .mixedOrders=true) {lp:Nat}:(cd:Cd)→(c:Code)→chkCd P N cd c=true→∀ {Kn K:Kt R} {Q:Exit→Act→World→Prop},KtOk N B w0 r Kn .norm Q→(∀ e,e≠.norm→KtOk N B w0 r K e Q) →
    ∀ {s:Slots} {h:Heap} {a:Act} {w:World},Is N B w0 (getS s) (getO h) a w→run cf lp cd Kn K s h=some r→c.wp P Q a w
  | .skip,c,hc,Kn,K,Q,hn,hk,s,h,a,w,hs,hr=>by
    cases c with
    | skip=>exact wp_skip (hn s h a w hr hs)
    | _=>simp [chkCd] at hc
  | .reg d l,c,hc,Kn,K,Q,hn,hk,s,h,a,w,hs,hr=>by
    cases c with
    | region id ops d' =>
      simp only [chkCd,Bool.and_eq_true,beq_iff_eq] at hc
      obtain ⟨⟨rfl,h1⟩,h2⟩:=hc
      obtain ⟨c1,c2⟩:=chkLns_spec l ops.toList h1
      have c2:∀ (m:Nat) (x:Ln),l[m]?=some x→∃ o,ops[m]?=some o∧chkLn P N ops x o=true:=fun m x hx=>by
        obtain ⟨o,k1,k2⟩:=c2 m x hx
        exact ⟨o,by simpa using k1,k2⟩
      have c1:l.length=ops.size:=by simpa using c1
      simp only [run] at hr
      obtain ⟨q,s',h',q1,q2,q3,q4⟩:=runLns_ran l hr
      have hQ:∀ a' w',Is N B w0 (endS l q (getS s)) (endH q (getO h)) a' w'→Q .normal a' w':=fun a' w' hs'=>by
        rw [← q3,← q4] at hs'
        exact hn s' h' a' w' q2 hs'
      cases d with
      | false =>
        refine wp_region ?_
        have:=region_ok hcf l 0 (fun m x hx=>by rw [Nat.zero_add]; exact c2 m x hx) q1 hs hQ
        rw [c1] at this
        rw [List.range_eq_range']
        exact this
      | true =>
        refine wp_region_any hm ?_
        have hd:=chkDraw_ok c1 h2
        have hfalse:∀ j,(Array.replicate ops.size false).getD j false=false:=fun j=>by
          rw [Array.getD_eq_getD_getElem?,Array.getElem?_replicate]
          split <;> rfl
        refine any_ok hcf c2 hd q1 hQ ops.size _ a _ (by simp) (fun j o _ (hj:(Array.replicate ops.size false).getD j false=true)=>by rw [hfalse] at hj; cases hj) (by simp) ?_
        simp only [hfalse]
        rw [exS_none _ _ _ _ (fun _ _=>rfl),exH_none _ _ _ (fun _ _=>rfl)]
        exact is_drawn hs
    | _=>simp [chkCd] at hc
  | .tidy _ _ _ _,c,hc,Kn,K,Q,hn,hk,s,h,a,w,hs,hr=>by cases c <;> simp [chkCd] at hc
  | .frz _,c,hc,Kn,K,Q,hn,hk,s,h,a,w,hs,hr=>by cases c <;> simp [chkCd] at hc
  | .seq x y,c,hc,Kn,K,Q,hn,hk,s,h,a,w,hs,hr=>by
    rw [chkCd] at hc
    rw [run] at hr
    cases ty:isTidy y with
    | true =>
      rw [ty,cond_true] at hc
      refine code_ok hcf hm x c hc (fun s h a w hr hs => ?_) hk hs hr
      obtain ⟨s',h',k1,k2⟩:=tidy_run ty hs hr
      exact hn s' h' a w k2 k1
    | false =>
      rw [ty,cond_false] at hc
      cases tx:isTidy x with
      | true =>
        rw [tx,cond_true] at hc
        obtain ⟨s',h',k1,k2⟩:=tidy_run tx hs hr
        exact code_ok hcf hm y c hc hn hk k1 k2
      | false =>
        rw [tx,cond_false] at hc
        cases c with
        | seq c1 c2 =>
          simp only [seqC,Bool.and_eq_true] at hc
          refine wp_seq (code_ok hcf hm x c1 hc.1 (fun s h a w hr hs => ?_) (fun e he s h a w hr hs => ?_) hs hr)
          · exact code_ok hcf hm y c2 hc.2 hn hk hs hr
          · have:=hk e he s h a w hr hs
            cases e with
            | norm=>exact absurd rfl he
            | exit id=>exact this
            | ret=>exact this
        | _=>simp [seqC] at hc
  | .cond o x y,c,hc,Kn,K,Q,hn,hk,s,h,a,w,hs,hr=>by
    cases c with
    | cond o' c1 c2 =>
      simp only [chkCd,Bool.and_eq_true] at hc
      rw [run] at hr
      split at hr
      · rename_i t ov ht
        have hb:a.eval o'=.bool t:=by
          obtain ⟨A,ρ,own,st,sl,sz,df⟩:=hs
          have:=opd_ok sl hc.1.1
          rw [ht] at this
          exact repV_bool this
        cases t with
        | true=>exact wp_cond_true hb (code_ok hcf hm x c1 hc.1.2 hn hk hs hr)
        | false=>exact wp_cond_false hb (code_ok hcf hm y c2 hc.2 hn hk hs hr)
      · cases hr
    | _=>simp [chkCd] at hc
  | .block id x,c,hc,Kn,K,Q,hn,hk,s,h,a,w,hs,hr=>by
    cases c with
    | block j c1 =>
      simp only [chkCd,Bool.and_eq_true] at hc
      obtain ⟨h1,h2⟩:=hc
      have:=Nat.eq_of_beq_eq_true h1
      subst this
      rw [run] at hr
      refine wp_block (code_ok hcf hm x c1 h2 (Kn:=Kn) (K:=kBlk id Kn K) (Q:=Exit.inBlock id Q) (fun s h a w hr hs=>hn s h a w hr hs) (fun e he s h a w hr hs => ?_) hs hr)
      cases e with
      | norm=>exact absurd rfl he
      | exit i =>
        simp only [kBlk] at hr
        simp only [exQ,Exit.inBlock]
        split at hr
        · rename_i hi
          rw [if_pos (Nat.eq_of_beq_eq_true hi)]
          exact hn s h a w hr hs
        · rename_i hi
          rw [if_neg (Nat.ne_of_beq_eq_false hi)]
          exact hk (.exit i) he s h a w hr hs
      | ret=>exact hk .ret he s h a w hr hs
    | _=>simp [chkCd] at hc
  | .loop x,c,hc,Kn,K,Q,hn,hk,s,h,a,w,hs,hr=>by
    cases c with
    | loop c1 =>
      simp only [chkCd] at hc
      rw [run] at hr
      have key:∀ (n:Nat) (s:Slots) (h:Heap) (a:Act) (w:World),Is N B w0 (getS s) (getO h) a w→loopN (fun Kn K s h=>run cf lp x Kn K s h) n K s h=some r→Code.rounds P c1 Q n a w:=by
        intro n
        induction n with
        | zero=>intro s h a w hs hr; simp [loopN] at hr
        | succ n ih =>
          intro s h a w hs hr
          rw [loopN] at hr
          rw [rounds_succ]
          refine code_ok hcf hm x c1 hc (fun s h a w hr hs=>ih s h a w hs hr) (fun e he s h a w hr hs => ?_) hs hr
          have:=hk e he s h a w hr hs
          cases e with
          | norm=>exact absurd rfl he
          | exit id=>exact this
          | ret=>exact this
      exact wp_loop_rounds lp (key lp s h a w hs hr)
    | _=>simp [chkCd] at hc
  | .exit id,c,hc,Kn,K,Q,hn,hk,s,h,a,w,hs,hr=>by
    cases c with
    | exit j =>
      have:=Nat.eq_of_beq_eq_true (by simpa only [chkCd] using hc:Nat.beq id j=true)
      subst this
      exact wp_exit (hk (.exit id) (by simp) s h a w hr hs)
    | _=>simp [chkCd] at hc
  | .ret,c,hc,Kn,K,Q,hn,hk,s,h,a,w,hs,hr=>by
    cases c with
    | ret=>exact wp_ret (hk .ret (by simp) s h a w hr hs)
    | _=>simp [chkCd] at hc
end
end Go.Proofs.YtjobjooccgledaaDoor.Ghost
namespace Go.Proofs.YtjobjooccgledaaDoor.Ghost
open Go
theorem intsB_eq:{a b:List Int}→intsB a b=true→a=b
  | [],[],_=>rfl
  | x :: r,y :: s,h=>by
    simp only [intsB,Bool.and_eq_true,beq_iff_eq] at h
    rw [h.1,intsB_eq h.2]
  | [],_ :: _,h=>by simp [intsB] at h
  | _ :: _,[],h=>by simp [intsB] at h
mutual
theorem prj_inj:(s:Sh)→(v:SV)→{x:dSh s}→prj s v=some x→v=inj s x
  | .d τ,.dat σ y [],x,h=>by
    simp only [prj] at h
    have:=castT_spec h
    cases this
    rfl
  | .ref τ,.ref σ y,x,h=>by
    simp only [prj] at h
    have:=castT_spec h
    cases this
    rfl
  | .refv s,.refv v,x,h=>by
    simp only [prj] at h
    simp only [inj,← prj_inj s v h]
  | .selfc f l,.selfc g vs,x,h=>by
    simp only [prj] at h
    split at h
    · rename_i hb
      rw [Nat.eq_of_beq_eq_true hb]
      simp only [inj,← prjL_inj l vs h]
    · cases h
  | .clo f l,.clo g vs,x,h=>by
    simp only [prj] at h
    split at h
    · rename_i hb
      rw [Nat.eq_of_beq_eq_true hb]
      simp only [inj,← prjL_inj l vs h]
    · cases h
  | .nilfn,.nilfn,x,h=>rfl
  | .agv l,.agv vs,x,h=>by
    simp only [prj] at h
    simp only [inj,← prjL_inj l vs h]
  | .slv l,.slv vs,x,h=>by
    simp only [prj] at h
    simp only [inj,← prjL_inj l vs h]
  | .fmap ks l,.fmap ks' vs,x,h=>by
    simp only [prj] at h
    split at h
    · rename_i hb
      rw [intsB_eq hb]
      simp only [inj,← prjL_inj l vs h]
    · cases h
  | .d _,.dat _ _ (_ :: _),_,h=>by simp [prj] at h
  | .d _,.ptr _ _,_,h=>by simp [prj] at h
  | .d _,.ref _ _,_,h=>by simp [prj] at h
  | .d _,.refv _,_,h=>by simp [prj] at h
  | .d _,.selfc _ _,_,h=>by simp [prj] at h
  | .d _,.elp _ _ _,_,h=>by simp [prj] at h
  | .d _,.clo _ _,_,h=>by simp [prj] at h
  | .d _,.tup _,_,h=>by simp [prj] at h
  | .d _,.slv _,_,h=>by simp [prj] at h
  | .d _,.fmap _ _,_,h=>by simp [prj] at h
  | .d _,.agv _,_,h=>by simp [prj] at h
  | .d _,.nilfn,_,h=>by simp [prj] at h
  | .d _,.und,_,h=>by simp [prj] at h
  | .d _,.junk,_,h=>by simp [prj] at h
  | .d _,.glo _,_,h=>by simp [prj] at h
  | .ref _,.dat _ _ _,_,h=>by simp [prj] at h
  | .ref _,.ptr _ _,_,h=>by simp [prj] at h
  | .ref _,.refv _,_,h=>by simp [prj] at h
  | .ref _,.selfc _ _,_,h=>by simp [prj] at h
  | .ref _,.elp _ _ _,_,h=>by simp [prj] at h
  | .ref _,.clo _ _,_,h=>by simp [prj] at h
  | .ref _,.tup _,_,h=>by simp [prj] at h
  | .ref _,.slv _,_,h=>by simp [prj] at h
  | .ref _,.fmap _ _,_,h=>by simp [prj] at h
  | .ref _,.agv _,_,h=>by simp [prj] at h
  | .ref _,.nilfn,_,h=>by simp [prj] at h
  | .ref _,.und,_,h=>by simp [prj] at h
  | .ref _,.junk,_,h=>by simp [prj] at h
  | .ref _,.glo _,_,h=>by simp [prj] at h
  | .refv _,.dat _ _ _,_,h=>by simp [prj] at h
  | .refv _,.ptr _ _,_,h=>by simp [prj] at h
  | .refv _,.selfc _ _,_,h=>by simp [prj] at h
  | .refv _,.ref _ _,_,h=>by simp [prj] at h
  | .refv _,.elp _ _ _,_,h=>by simp [prj] at h
  | .refv _,.clo _ _,_,h=>by simp [prj] at h
  | .refv _,.tup _,_,h=>by simp [prj] at h
  | .refv _,.slv _,_,h=>by simp [prj] at h
  | .refv _,.fmap _ _,_,h=>by simp [prj] at h
  | .refv _,.agv _,_,h=>by simp [prj] at h
  | .refv _,.nilfn,_,h=>by simp [prj] at h
  | .refv _,.und,_,h=>by simp [prj] at h
  | .refv _,.junk,_,h=>by simp [prj] at h
  | .refv _,.glo _,_,h=>by simp [prj] at h
  | .selfc _ _,.dat _ _ _,_,h=>by simp [prj] at h
  | .selfc _ _,.ptr _ _,_,h=>by simp [prj] at h
  | .selfc _ _,.ref _ _,_,h=>by simp [prj] at h
  | .selfc _ _,.refv _,_,h=>by simp [prj] at h
  | .selfc _ _,.elp _ _ _,_,h=>by simp [prj] at h
  | .selfc _ _,.clo _ _,_,h=>by simp [prj] at h
  | .selfc _ _,.tup _,_,h=>by simp [prj] at h
  | .selfc _ _,.slv _,_,h=>by simp [prj] at h
  | .selfc _ _,.fmap _ _,_,h=>by simp [prj] at h
  | .selfc _ _,.agv _,_,h=>by simp [prj] at h
  | .selfc _ _,.nilfn,_,h=>by simp [prj] at h
  | .selfc _ _,.und,_,h=>by simp [prj] at h
  | .selfc _ _,.junk,_,h=>by simp [prj] at h
  | .selfc _ _,.glo _,_,h=>by simp [prj] at h
  | .clo _ _,.dat _ _ _,_,h=>by simp [prj] at h
  | .clo _ _,.ptr _ _,_,h=>by simp [prj] at h
  | .clo _ _,.ref _ _,_,h=>by simp [prj] at h
  | .clo _ _,.refv _,_,h=>by simp [prj] at h
  | .clo _ _,.selfc _ _,_,h=>by simp [prj] at h
  | .clo _ _,.elp _ _ _,_,h=>by simp [prj] at h
  | .clo _ _,.tup _,_,h=>by simp [prj] at h
  | .clo _ _,.slv _,_,h=>by simp [prj] at h
  | .clo _ _,.fmap _ _,_,h=>by simp [prj] at h
  | .clo _ _,.agv _,_,h=>by simp [prj] at h
  | .clo _ _,.nilfn,_,h=>by simp [prj] at h
  | .clo _ _,.und,_,h=>by simp [prj] at h
  | .clo _ _,.junk,_,h=>by simp [prj] at h
  | .clo _ _,.glo _,_,h=>by simp [prj] at h
  | .nilfn,.dat _ _ _,_,h=>by simp [prj] at h
  | .nilfn,.ptr _ _,_,h=>by simp [prj] at h
  | .nilfn,.ref _ _,_,h=>by simp [prj] at h
  | .nilfn,.refv _,_,h=>by simp [prj] at h
  | .nilfn,.selfc _ _,_,h=>by simp [prj] at h
  | .nilfn,.elp _ _ _,_,h=>by simp [prj] at h
  | .nilfn,.clo _ _,_,h=>by simp [prj] at h
  | .nilfn,.tup _,_,h=>by simp [prj] at h
  | .nilfn,.slv _,_,h=>by simp [prj] at h
  | .nilfn,.fmap _ _,_,h=>by simp [prj] at h
  | .nilfn,.agv _,_,h=>by simp [prj] at h
  | .nilfn,.und,_,h=>by simp [prj] at h
  | .nilfn,.junk,_,h=>by simp [prj] at h
  | .nilfn,.glo _,_,h=>by simp [prj] at h
  | .agv _,.dat _ _ _,_,h=>by simp [prj] at h
  | .agv _,.ptr _ _,_,h=>by simp [prj] at h
  | .agv _,.ref _ _,_,h=>by simp [prj] at h
  | .agv _,.refv _,_,h=>by simp [prj] at h
  | .agv _,.selfc _ _,_,h=>by simp [prj] at h
  | .agv _,.elp _ _ _,_,h=>by simp [prj] at h
  | .agv _,.clo _ _,_,h=>by simp [prj] at h
  | .agv _,.tup _,_,h=>by simp [prj] at h
  | .agv _,.slv _,_,h=>by simp [prj] at h
  | .agv _,.fmap _ _,_,h=>by simp [prj] at h
  | .agv _,.nilfn,_,h=>by simp [prj] at h
  | .agv _,.und,_,h=>by simp [prj] at h
  | .agv _,.junk,_,h=>by simp [prj] at h
  | .agv _,.glo _,_,h=>by simp [prj] at h
  | .slv _,.dat _ _ _,_,h=>by simp [prj] at h
  | .slv _,.ptr _ _,_,h=>by simp [prj] at h
  | .slv _,.ref _ _,_,h=>by simp [prj] at h
  | .slv _,.refv _,_,h=>by simp [prj] at h
  | .slv _,.selfc _ _,_,h=>by simp [prj] at h
  | .slv _,.elp _ _ _,_,h=>by simp [prj] at h
  | .slv _,.clo _ _,_,h=>by simp [prj] at h
  | .slv _,.tup _,_,h=>by simp [prj] at h
  | .slv _,.agv _,_,h=>by simp [prj] at h
  | .slv _,.nilfn,_,h=>by simp [prj] at h
  | .slv _,.und,_,h=>by simp [prj] at h
  | .slv _,.junk,_,h=>by simp [prj] at h
  | .slv _,.glo _,_,h=>by simp [prj] at h
  | .slv _,.fmap _ _,_,h=>by simp [prj] at h
  | .fmap _ _,.dat _ _ _,_,h=>by simp [prj] at h
  | .fmap _ _,.ptr _ _,_,h=>by simp [prj] at h
  | .fmap _ _,.ref _ _,_,h=>by simp [prj] at h
  | .fmap _ _,.refv _,_,h=>by simp [prj] at h
  | .fmap _ _,.selfc _ _,_,h=>by simp [prj] at h
  | .fmap _ _,.elp _ _ _,_,h=>by simp [prj] at h
  | .fmap _ _,.clo _ _,_,h=>by simp [prj] at h
  | .fmap _ _,.tup _,_,h=>by simp [prj] at h
  | .fmap _ _,.slv _,_,h=>by simp [prj] at h
  | .fmap _ _,.agv _,_,h=>by simp [prj] at h
  | .fmap _ _,.nilfn,_,h=>by simp [prj] at h
  | .fmap _ _,.und,_,h=>by simp [prj] at h
  | .fmap _ _,.junk,_,h=>by simp [prj] at h
  | .fmap _ _,.glo _,_,h=>by simp [prj] at h
theorem prjL_inj:(l:List Sh)→(vs:List SV)→{x:dShL l}→prjL l vs=some x→vs=injL l x
  | [],[],_,_=>rfl
  | s :: r,v :: vs,x,h=>by
    simp only [prjL] at h
    split at h
    · rename_i y hy
      split at h
      · rename_i z hz
        simp only [Option.some.injEq] at h
        subst h
        simp only [injL,← prj_inj s v hy,← prjL_inj r vs hz]
      · cases h
    · cases h
  | [],_ :: _,_,h=>by simp [prjL] at h
  | _ :: _,[],_,h=>by simp [prjL] at h
end
theorem setF_at:(fs:List Ty)→(i:Nat)→{t:Ty}→fs[i]?=some t→(p:Path)→(x:denL fs)→(d:Dyn)→∃ x0:den t,getF fs i x=some ⟨t,x0⟩ ∧
    ((∀ y,setP t p x0 d=some y→∃ x',setF fs i p x d=some x'∧getF fs i x'=some ⟨t,y⟩)∧(setP t p x0 d=none→setF fs i p x d=none))
  | [],_,_,h,_,_,_=>by simp at h
  | t :: r,0,t',h,p,x,d=>by
    simp at h
    subst h
    refine ⟨x.1,rfl,fun y hy => ?_,fun hn => ?_⟩
    · simp only [setF,hy]
      exact ⟨_,rfl,rfl⟩
    · simp only [setF,hn]
  | t :: r,i+1,t',h,p,x,d=>by
    obtain ⟨x0,h1,h2,h3⟩:=setF_at r i (by simpa using h) p x.2 d
    refine ⟨x0,h1,fun y hy => ?_,fun hn => ?_⟩
    · obtain ⟨x',k1,k2⟩:=h2 y hy
      simp only [setF,k1]
      exact ⟨_,rfl,k2⟩
    · simp only [setF,h3 hn]
theorem getP_setP_self {e:Ty} {l:List (den e)}:(q:Path)→(τ:Ty)→stPath q τ=true→{x x1:den τ}→setP τ q x ⟨.sl e,l⟩=some x1→getP q τ x1=some ⟨.sl e,l⟩
  | [],τ,_,x,x1,hs=>by
    have hc:castT (.sl e) τ l=some x1:=by cases τ <;> simpa only [setP] using hs
    have:=castT_spec hc
    cases this
    rfl
  | i :: p,.st fs,hp,x,x1,hs=>by
    simp only [stPath] at hp
    split at hp
    · rename_i t ht
      obtain ⟨x0,h1,h2,h3⟩:=setF_at fs i ht p x ⟨.sl e,l⟩
      simp only [setP] at hs
      cases hy:setP t p x0 ⟨.sl e,l⟩ with
      | none=>rw [h3 hy] at hs; cases hs
      | some y =>
        obtain ⟨x',k1,k2⟩:=h2 y hy
        rw [k1] at hs
        cases hs
        simp only [getP,k2]
        exact getP_setP_self p t hp hy
    · cases hp
  | _ :: _,.bool,hp,_,_,_=>by simp [stPath] at hp
  | _ :: _,.int _,hp,_,_,_=>by simp [stPath] at hp
  | _ :: _,.str,hp,_,_,_=>by simp [stPath] at hp
  | _ :: _,.sl _,hp,_,_,_=>by simp [stPath] at hp
  | _ :: _,.arr _ _,hp,_,_,_=>by simp [stPath] at hp
theorem getP_setP_fwd {e' e:Ty} {l':List (den e')} {l:List (den e)}:(q p:Path)→(τ:Ty)→stPath q τ=true→{x x1:den τ}→setP τ p x ⟨.sl e',l'⟩=some x1→p≠q→getP q τ x=some ⟨.sl e,l⟩→getP q τ x1=some ⟨.sl e,l⟩
  | [],[],τ,_,x,x1,hs,hne,_=>absurd rfl hne
  | [],i :: p,τ,hq,x,x1,hs,_,_=>by
    cases τ with
    | sl t=>simp [setP] at hs
    | _=>simp [stPath] at hq
  | j :: q,[],τ,hq,x,x1,hs,_,_=>by
    have hc:castT (.sl e') τ l'=some x1:=by cases τ <;> simpa only [setP] using hs
    have:=castT_spec hc
    cases this
    simp [stPath] at hq
  | j :: q,i :: p,.st fs,hq,x,x1,hs,hne,hg=>by
    simp only [setP] at hs
    simp only [getP] at hg ⊢
    by_cases hij:j=i
    · subst hij
      simp only [stPath] at hq
      split at hq
      · rename_i t ht
        obtain ⟨x0,h1,h2,h3⟩:=setF_at fs j ht p x ⟨.sl e',l'⟩
        rw [h1] at hg
        cases hy:setP t p x0 ⟨.sl e',l'⟩ with
        | none=>rw [h3 hy] at hs; cases hs
        | some y =>
          obtain ⟨x',k1,k2⟩:=h2 y hy
          rw [k1] at hs
          cases hs
          simp only [k2]
          exact getP_setP_fwd q p t hq hy (fun e=>hne (by rw [e])) hg
      · cases hq
    · rw [getF_setF_ne fs i j p x x1 _ hs hij]
      exact hg
  | _ :: _,_ :: _,.bool,hp,_,_,_,_,_=>by simp [stPath] at hp
  | _ :: _,_ :: _,.int _,hp,_,_,_,_,_=>by simp [stPath] at hp
  | _ :: _,_ :: _,.str,hp,_,_,_,_,_=>by simp [stPath] at hp
  | _ :: _,_ :: _,.sl _,hp,_,_,_,_,_=>by simp [stPath] at hp
  | _ :: _,_ :: _,.arr _ _,hp,_,_,_,_,_=>by simp [stPath] at hp
section
variable {h:Nat→Obj}
theorem resolve_pres {e:Ty} {l:List (den e)} {τ:Ty} {q:Path} (hq:stPath q τ=true):(ov:Ov)→{x y:den τ}→(∀ p o,(p,o)∈ov→p≠q)→Ghost.resolve h τ x ov=some y→getP q τ x=some ⟨.sl e,l⟩→getP q τ y=some ⟨.sl e,l⟩
  | [],x,y,_,hr,hg=>by
    simp only [Ghost.resolve,Option.some.injEq] at hr
    subst hr; exact hg
  | (_,none) :: _,_,_,_,hr,_=>by simp [Ghost.resolve] at hr
  | (p,some g) :: r,x,y,hn,hr,hg=>by
    simp only [Ghost.resolve] at hr
    split at hr
    · split at hr
      · rename_i x1 hx1
        exact resolve_pres hq r (fun p o hm=>hn p o (by simp [hm])) hr (getP_setP_fwd q p τ hq hx1 (hn p (some g) (by simp)) hg)
      · cases hr
    · split at hr
      · rename_i x1 hx1
        exact resolve_pres hq r (fun p o hm=>hn p o (by simp [hm])) hr (getP_setP_fwd q p τ hq hx1 (hn p (some g) (by simp)) hg)
      · cases hr
    · cases hr
theorem ovFine_spec {τ:Ty} {q:Path} {o:Option Nat} {r:Ov} (hf:ovFine τ ((q,o) :: r)=true):stPath q τ=true∧(∀ p o',(p,o')∈r→p≠q)∧ovFine τ r=true:=by
  simp only [ovFine,Bool.and_eq_true,Bool.not_eq_true'] at hf
  refine ⟨hf.1.1,fun p o' hm e => ?_,hf.2⟩
  subst e
  have:=List.any_eq_false.1 hf.1.2 _ hm
  exact this (pathEq_iff.2 rfl)
theorem own_get {τ:Ty}:(ov:Ov)→{x y:den τ}→ovFine τ ov=true→Ghost.resolve h τ x ov=some y→∀ q g,(q,g)∈resOne.ovOwn h ov→∃ e,∃ l:List (den e),h g=.arr e l∧getP q τ y=some ⟨.sl e,l⟩
  | [],_,_,_,_,q,g,hm=>by simp [resOne.ovOwn] at hm
  | (_,none) :: _,_,_,_,hr,_,_,_=>by simp [Ghost.resolve] at hr
  | (p,some g0) :: r,x,y,hf,hr,q,g,hm=>by
    obtain ⟨f1,f2,f3⟩:=ovFine_spec hf
    simp only [Ghost.resolve] at hr
    simp only [resOne.ovOwn] at hm
    cases hg0:h g0 with
    | arr e l =>
      rw [hg0] at hm hr
      simp only [] at hm hr
      split at hr
      · rename_i x1 hx1
        rcases List.mem_cons.1 hm with hm | hm
        · cases hm
          exact ⟨e,l,hg0,resolve_pres f1 r f2 hr (getP_setP_self p τ f1 hx1)⟩
        · exact own_get r f3 hr q g hm
      · cases hr
    | frz e l =>
      rw [hg0] at hm hr
      simp only [] at hm hr
      split at hr
      · exact own_get r f3 hr q g hm
      · cases hr
    | _=>rw [hg0] at hr; cases hr
def keepOv (h:Nat→Obj) (T:Nat→Bool):Ov→Ov
  | []=>[]
  | (q,some g) :: r=>(match h g with | .arr _ _=>(bif T g then (q,some g) :: keepOv h T r else keepOv h T r) | _=>keepOv h T r)
  | (_,none) :: r=>keepOv h T r
theorem mem_keepOv {T:Nat→Bool} {q:Path} {og:Option Nat}:(ov:Ov)→((q,og)∈keepOv h T ov↔∃ g,og=some g∧T g=true∧(q,g)∈resOne.ovOwn h ov)
  | []=>by simp [keepOv,resOne.ovOwn]
  | (_,none) :: r=>by simp only [keepOv,resOne.ovOwn]; exact mem_keepOv r
  | (p,some g0) :: r=>by
    simp only [keepOv,resOne.ovOwn]
    cases hg0:h g0 with
    | arr e l =>
      simp only []
      cases hT:T g0 with
      | true =>
        simp only [cond_true,List.mem_cons,mem_keepOv r]
        constructor
        · rintro (e1 | ⟨g,e1,e2,e3⟩)
          · cases e1; exact ⟨g0,rfl,hT,.inl rfl⟩
          · exact ⟨g,e1,e2,.inr e3⟩
        · rintro ⟨g,e1,e2,e3 | e3⟩
          · cases e3; subst e1; exact .inl rfl
          · exact .inr ⟨g,e1,e2,e3⟩
      | false =>
        simp only [cond_false,List.mem_cons,mem_keepOv r]
        constructor
        · rintro ⟨g,e1,e2,e3⟩; exact ⟨g,e1,e2,.inr e3⟩
        · rintro ⟨g,e1,e2,e3 | e3⟩
          · cases e3; rw [hT] at e2; cases e2
          · exact ⟨g,e1,e2,e3⟩
    | _=>simp only []; exact mem_keepOv r
end
section
variable {A Aw:Nat→Prop} {ρ:Refs} {own:Nat→Option Nat} {w:World} {h:Nat→Obj} {T:Nat→Bool}
theorem resolve_keep (hA:∀ b,A b→Aw b) (hT:∀ g b,T g=false→own b=some g→Aw b) (hO:∀ g,RepO A ρ own w g (h g)) {τ:Ty}:(ov ks:Ov)→{x y:den τ}→{cs:List Value}→RepC Aw ρ w τ x (ov ++ ks) cs→Ghost.resolve h τ x ov=some y→RepC Aw ρ w τ y (keepOv h T ov ++ ks) cs
  | [],ks,x,y,cs,hr,he=>by
    simp only [Ghost.resolve,Option.some.injEq] at he
    subst he
    exact hr
  | (_,none) :: _,_,_,_,_,_,he=>by simp [Ghost.resolve] at he
  | (q,some g) :: r,ks,x,y,cs,hr,he=>by
    have ob:=hO g
    simp only [Ghost.resolve] at he
    simp only [keepOv]
    cases hg:h g with
    | arr e l =>
      rw [hg] at ob he
      simp only [] at he ⊢
      split at he
      · rename_i x1 hx1
        cases ht:T g with
        | true =>
          simp only [cond_true]
          have h1:=RepC.setOwn τ q hr ⟨g,by simp⟩ hx1
          have h2:=resolve_keep hA hT hO r ((q,some g) :: ks) (RepC.ov τ (fun e=>by simp only [List.cons_append,List.mem_cons,List.mem_append]; constructor <;> rintro (h | h | h) <;> simp [h]) h1) he
          exact RepC.ov τ (fun e=>by simp only [List.cons_append,List.mem_cons,List.mem_append]; constructor <;> rintro (h | h | h) <;> simp [h]) h2
        | false =>
          simp only [cond_false]
          exact resolve_keep hA hT hO r ks (RepC.res1 (RepArr.plain hA (fun s cs hm=>⟨hT g _ ht hm.1,hm.2.1⟩) ob) τ q hr hx1 (fun ee=>by simp)) he
      · cases he
    | frz e l =>
      rw [hg] at ob he
      simp only [] at he ⊢
      split at he
      · rename_i x1 hx1
        exact resolve_keep hA hT hO r ks (RepC.res1 (RepArr.plain hA (fun s cs hm=>⟨hA _ hm.1,hm.2⟩) ob) τ q hr hx1 (fun ee=>by simp)) he
      · cases he
    | _=>rw [hg] at he; cases he
theorem resFin_ok (hA:∀ b,A b→Aw b) (hT:∀ g b,T g=false→own b=some g→Aw b) (hO:∀ g,RepO A ρ own w g (h g)) {v u:SV} {val:Value} {o:List (Path×Nat)} {ls:List Nat} (hr:resOne.resFin h v=some (u,o,ls)) (hl:∀ g,g∈ls→T g=false) (hv:RepV A ρ w v val) :
    (∃ τ x,u=.dat τ x []∧(∀ q g,(q,g)∈o→∃ e,∃ l:List (den e),h g=.arr e l∧getP q τ x=some ⟨.sl e,l⟩)∧∃ cs,val=mkV τ cs∧∀ ov:Ov,(∀ q og,(q,og)∈ov↔∃ g,og=some g∧T g=true∧(q,g)∈o)→RepC Aw ρ w τ x ov cs) ∨
      (isDat u=false∧o=[]∧RepV Aw ρ w u val):=by
  have hlend:∀ v' u',v=v'→isDat u'=false→lend h 60 v=some (u',ls)→u=u'→o=[]→(isDat u=false∧o=[]∧RepV Aw ρ w u val):=fun v' u' e1 e2 e3 e4 e5=>by
    subst e4
    exact ⟨e2,e5,lend_rep hA hO 60 v e3 (fun g hg b hb=>hT g b (hl g hg) hb) hv⟩
  have hnd:∀ (n:Nat) (v:SV) (u:SV) (ids:List Nat),isDat v=false→lend h n v=some (u,ids)→isDat u=false:=fun n v u ids hd he=>by
    cases n with
    | zero=>simp [lend] at he
    | succ n =>
      cases v with
      | dat _ _ _=>cases hd
      | ptr g p =>
        simp only [lend] at he
        split at he
        · split at he
          · split at he
            · simp only [Option.some.injEq,Prod.mk.injEq] at he; rw [← he.1]; rfl
            · cases he
          · cases he
        · split at he
          · split at he
            · simp only [Option.some.injEq,Prod.mk.injEq] at he; rw [← he.1]; rfl
            · cases he
          · cases he
        · split at he
          · split at he
            · simp only [Option.some.injEq,Prod.mk.injEq] at he; rw [← he.1]; rfl
            · cases he
          · split at he
            · split at he
              · simp only [Option.some.injEq,Prod.mk.injEq] at he; rw [← he.1]; rfl
              · cases he
            · cases he
        · split at he
          · split at he
            · simp only [Option.some.injEq,Prod.mk.injEq] at he; rw [← he.1]; rfl
            · cases he
          · split at he
            · split at he
              · simp only [Option.some.injEq,Prod.mk.injEq] at he; rw [← he.1]; rfl
              · cases he
            · cases he
        · cases he
      | ref τ x=>simp only [lend,Option.some.injEq,Prod.mk.injEq] at he; rw [← he.1]; rfl
      | refv v =>
        simp only [lend] at he
        split at he
        · simp only [Option.some.injEq,Prod.mk.injEq] at he; rw [← he.1]; rfl
        · cases he
      | selfc f caps =>
        simp only [lend] at he
        split at he
        · simp only [Option.some.injEq,Prod.mk.injEq] at he; rw [← he.1]; rfl
        · cases he
      | elp g i p=>simp [lend] at he
      | glo k=>simp [lend] at he
      | clo f caps =>
        simp only [lend] at he
        split at he
        · simp only [Option.some.injEq,Prod.mk.injEq] at he; rw [← he.1]; rfl
        · cases he
      | tup vs=>simp [lend] at he
      | fmap ks vs=>simp [lend] at he
      | slv vs =>
        simp only [lend] at he
        split at he
        · simp only [Option.some.injEq,Prod.mk.injEq] at he; rw [← he.1]; rfl
        · cases he
      | agv vs =>
        simp only [lend] at he
        split at he
        · simp only [Option.some.injEq,Prod.mk.injEq] at he; rw [← he.1]; rfl
        · cases he
      | nilfn=>simp only [lend,Option.some.injEq,Prod.mk.injEq] at he; rw [← he.1]; rfl
      | und=>simp [lend] at he
      | junk=>simp [lend] at he
  have other:isDat v=false→(match lend h 60 v with | some (u,ids)=>some (u,([]:List (Path×Nat)),ids) | none=>none)=some (u,o,ls)→(isDat u=false∧o=[]∧RepV Aw ρ w u val):=fun hd hh=>by
    split at hh
    · rename_i u' ids he
      simp only [Option.some.injEq,Prod.mk.injEq] at hh
      obtain ⟨rfl,rfl,rfl⟩:=hh
      exact hlend v u' rfl (hnd 60 v u' ids hd he) he rfl rfl
    · cases hh
  cases v with
  | dat τ x ov =>
    left
    unfold resOne.resFin at hr
    simp only [] at hr
    simp only [RepV] at hv
    obtain ⟨cs,h1,h2⟩:=hv
    split at hr
    · rename_i y hy
      have hk:=resolve_keep (T:=T) hA hT hO ov [] (by rw [List.append_nil]; exact RepC.wide hA h1) hy
      rw [List.append_nil] at hk
      split at hr
      · rename_i hf
        simp only [Option.some.injEq,Prod.mk.injEq] at hr
        obtain ⟨rfl,rfl,rfl⟩:=hr
        exact ⟨τ,y,rfl,own_get ov hf hy,cs,h2,fun ov' hov=>RepC.ov τ (fun ⟨q,og⟩=>by rw [mem_keepOv,hov]) hk⟩
      · simp only [Option.some.injEq,Prod.mk.injEq] at hr
        obtain ⟨rfl,rfl,rfl⟩:=hr
        refine ⟨τ,y,rfl,(fun q g hm=>by cases hm),cs,h2,fun ov' hov=>RepC.ov τ (fun ⟨q,og⟩ => ?_) (resolve_repW hA hO ov (fun g hg b hb=>hT g b (hl g hg) hb) (RepC.wide hA h1) hy)⟩
        rw [hov]
        simp
    · cases hr
  | _=>exact .inr (other rfl hr)
end
end Go.Proofs.YtjobjooccgledaaDoor.Ghost
namespace Go.Proofs.YtjobjooccgledaaDoor.Ghost
open Go
def chkRV (P:Program):RV→ResultVar→Bool
  | .tmp t,.tmp t'=>Nat.beq t t'
  | .cell t l,.cell t' T=>Nat.beq t t' && ltOk P l T
  | _,_=>false
def chkRVs (P:Program):List RV→List ResultVar→Bool
  | [],[]=>true
  | x :: r,y :: s=>chkRV P x y && chkRVs P r s
  | _,_=>false
def resV (tmps:Array Value):ResultVar→Sem Value
  | .tmp t=>pure (tmps.getD t undef)
  | .cell a t=>do loadVar t (← asAddr (tmps.getD a undef))
theorem run_mapML {P:Program} {w:World} {α:Type} {f:α→Sem Value}:(l:List α)→(vs:List Value)→vs.length=l.length→(∀ (j:Nat) (x:α),l[j]?=some x→∃ v,vs[j]?=some v∧(f x).run P w=.ok v w)→(l.mapM f).run P w=.ok vs w
  | [],[],_,_=>by simp only [List.mapM_nil,Sem.run_pure]
  | x :: r,v :: vs,hl,hv=>by
    obtain ⟨v',k1,k2⟩:=hv 0 x rfl
    simp at k1
    subst k1
    have ih:=run_mapML r vs (by simpa using hl) (fun j x hj=>by simpa using hv (j+1) x (by simpa using hj))
    simp only [List.mapM_cons,Sem.run_bind,k2,ih,Result.andThen_ok,Sem.run_pure]
  | [],_ :: _,hl,_=>by simp at hl
  | _ :: _,[],hl,_=>by simp at hl
theorem run_mapM {P:Program} {w:World} {α:Type} {f:α→Sem Value} {as:Array α} {vs:List Value} (hz:vs.length=as.size) (hv:∀ (j:Nat) (hj:j<as.size),∃ v,vs[j]?=some v∧(f as[j]).run P w=.ok v w) :
    (as.mapM f).run P w=.ok vs.toArray w:=by
  have h:=run_mapML (P:=P) (w:=w) (f:=f) as.toList vs (by simpa using hz) (fun j x hj=>by
    have hlt:j<as.size:=by simpa using (List.getElem?_eq_some_iff.1 hj).1
    obtain ⟨v,k1,k2⟩:=hv j hlt
    have:x=as[j]:=by
      have h2:as[j]?=some x:=by simpa using hj
      rw [Array.getElem?_eq_getElem hlt] at h2
      cases h2; rfl
    subst this
    exact ⟨v,k1,k2⟩)
  rw [Array.mapM_eq_mapM_toList,map_eq_pure_bind,Sem.run_bind,h,Result.andThen_ok,Sem.run_pure]
theorem run_results {P:Program} {w:World} {fn:Func} {tmps:Array Value} {vs:List Value} (hz:vs.length=fn.results.size) (hv:∀ (j:Nat) (hj:j<fn.results.size),∃ v,vs[j]?=some v∧(resV tmps fn.results[j]).run P w=.ok v w) :
    (results fn tmps).run P w=.ok (bundleV vs) w:=by
  have h1:(fn.results.mapM (resV tmps)).run P w=.ok vs.toArray w:=run_mapM hz hv
  have h2:results fn tmps=(do let vs ← fn.results.mapM (resV tmps); pure (if h:vs.size=1 then vs[0] else .tuple vs)):=by
    unfold results
    congr 2
  rw [h2,Sem.run_bind,h1,Result.andThen_ok,Sem.run_pure]
  match vs with
  | []=>rfl
  | [v]=>rfl
  | v :: u :: r=>rfl
section
variable {P:Program} {B N:Nat} {w0:Start} {A Aw:Nat→Prop} {ρ:Refs} {own:Nat→Option Nat} {w:World} {h:Nat→Obj} {s:Nat→SV} {T:Nat→Bool} {a:Act}
theorem resOne_ok (hA:∀ b,A b→Aw b) (hT:∀ g b,T g=false→own b=some g→Aw b) (st:St B w0 A ρ own w h) (sl:SlotsOk A ρ w s a) {r:RV} {r':ResultVar} (hc:chkRV P r r'=true) {u:SV} {o:List (Path×Nat)} {ls:List Nat}
    (hr:resOne s h r=some (u,o,ls)) (hl:∀ g,g∈ls→T g=false):∃ val,(resV a.tmps r').run P w=.ok val w ∧
    ((∃ τ x,u=.dat τ x []∧(∀ q g,(q,g)∈o→∃ e,∃ l:List (den e),h g=.arr e l∧getP q τ x=some ⟨.sl e,l⟩)∧∃ cs,val=mkV τ cs∧∀ ov:Ov,(∀ q og,(q,og)∈ov↔∃ g,og=some g∧T g=true∧(q,g)∈o)→RepC Aw ρ w τ x ov cs) ∨
      (isDat u=false∧o=[]∧RepV Aw ρ w u val)):=by
  cases r with
  | tmp t =>
    cases r' with
    | tmp t' =>
      have:=Nat.eq_of_beq_eq_true (by simpa only [chkRV] using hc:Nat.beq t t'=true)
      subst this
      exact ⟨a.tmps.getD t undef,by simp only [resV,Sem.run_pure],resFin_ok hA hT st.objs hr hl (sl t)⟩
    | cell _ _=>cases hc
  | cell t l =>
    cases r' with
    | tmp _=>cases hc
    | cell t' ty =>
      simp only [chkRV,Bool.and_eq_true] at hc
      have:=Nat.eq_of_beq_eq_true hc.1
      subst this
      simp only [resOne] at hr
      obtain ⟨v,v',h1,h2,⟨b,k,h3⟩,h4⟩:=load_val st hc.2 (sl t) hr
      have h5:a.tmps.getD t undef=.pointer (some ⟨b,k,none⟩):=h3
      refine ⟨v',?_,resFin_ok hA hT st.objs h1 hl h2⟩
      rw [h3] at h4
      simp only [resV,h5]
      simpa [Instr.loadAt,Instr.sureAddr,asAddr] using h4
theorem resAll_idx:(rs:List RV)→(i:Nat)→{vs:List SV}→{os:Keys}→{ls:List Nat}→resAll s h i rs=some (vs,os,ls)→∀ q,q∈os→i≤q.1.1
  | [],i,vs,os,ls,hr,q,hq=>by
    simp only [resAll,Option.some.injEq,Prod.mk.injEq] at hr
    rw [← hr.2.1] at hq
    cases hq
  | r :: rs,i,vs,os,ls,hr,q,hq=>by
    simp only [resAll] at hr
    split at hr
    · rename_i v o l h1
      split at hr
      · rename_i vs1 os1 ls1 h2
        simp only [Option.some.injEq,Prod.mk.injEq] at hr
        obtain ⟨_,rfl,_⟩:=hr
        rcases List.mem_append.1 hq with hq | hq
        · obtain ⟨p,hp,rfl⟩:=List.mem_map.1 hq
          exact Nat.le_refl i
        · have:=resAll_idx rs (i+1) h2 q hq
          omega
      · cases hr
    · cases hr
theorem resAll_ok (hA:∀ b,A b→Aw b) (hT:∀ g b,T g=false→own b=some g→Aw b) (st:St B w0 A ρ own w h) (sl:SlotsOk A ρ w s a) {o:Keys}:(rs:List RV)→(rs':List ResultVar)→(i:Nat)→{vs:List SV}→{os:Keys}→{ls:List Nat}→chkRVs P rs rs'=true →
    resAll s h i rs=some (vs,os,ls)→(∀ g,g∈ls→T g=false)→(∀ j p g,i≤j→(((j,p),g)∈o↔((j,p),g)∈os∧T g=true)) →
    ∃ vals,vals.length=rs'.length∧(∀ (j:Nat) (r:ResultVar),rs'[j]?=some r→∃ v,vals[j]?=some v∧(resV a.tmps r).run P w=.ok v w)∧RepVs Aw ρ w (withOv o i vs) vals ∧
      ∀ q,q∈os→∃ τ x e,∃ l:List (den e),vs[q.1.1 - i]?=some (.dat τ x [])∧getP q.1.2 τ x=some ⟨.sl e,l⟩∧h q.2=.arr e l
  | [],[],i,vs,os,ls,_,hr,_,_=>by
    simp only [resAll,Option.some.injEq,Prod.mk.injEq] at hr
    obtain ⟨rfl,rfl,rfl⟩:=hr
    exact ⟨[],rfl,fun j r hj=>by simp at hj,by simp only [withOv,RepVs],fun q hq=>by cases hq⟩
  | [],_ :: _,_,_,_,_,hc,_,_,_=>by cases hc
  | _ :: _,[],_,_,_,_,hc,_,_,_=>by cases hc
  | r :: rs,r' :: rs',i,vs,os,ls,hc,hr,hl,ho=>by
    simp only [chkRVs,Bool.and_eq_true] at hc
    simp only [resAll] at hr
    split at hr
    · rename_i u o1 l1 h1
      split at hr
      · rename_i vs1 os1 ls1 h2
        simp only [Option.some.injEq,Prod.mk.injEq] at hr
        obtain ⟨rfl,rfl,rfl⟩:=hr
        obtain ⟨val,k1,k2⟩:=resOne_ok hA hT st sl hc.1 h1 (fun g hg=>hl g (by simp [hg]))
        have hidx:=resAll_idx rs (i+1) h2
        obtain ⟨vals,m1,m2,m3,m4⟩:=resAll_ok hA hT st sl (o:=o) rs rs' (i+1) hc.2 h2 (fun g hg=>hl g (by simp [hg])) (fun j p g hj=>by
          rw [ho j p g (by omega)]
          simp only [List.mem_append,List.mem_map,Prod.mk.injEq]
          constructor
          · rintro ⟨⟨q,_,⟨e,_⟩,_⟩ | h,ht⟩
            · omega
            · exact ⟨h,ht⟩
          · rintro ⟨h,ht⟩; exact ⟨.inr h,ht⟩)
        have hov:∀ q og,(q,og)∈ovAt o i↔∃ g,og=some g∧T g=true∧(q,g)∈o1:=fun q og=>by
          rw [mem_ovAt]
          constructor
          · rintro ⟨g,e,hm⟩
            obtain ⟨hm,ht⟩:=(ho i q g (Nat.le_refl i)).1 hm
            rcases List.mem_append.1 hm with hm | hm
            · obtain ⟨p,hp,e2⟩:=List.mem_map.1 hm
              cases e2
              exact ⟨_,e,ht,hp⟩
            · have:=hidx _ hm
              simp only [] at this
              omega
          · rintro ⟨g,e,ht,hm⟩
            exact ⟨g,e,(ho i q g (Nat.le_refl i)).2 ⟨List.mem_append_left _ (List.mem_map.2 ⟨(q,g),hm,rfl⟩),ht⟩⟩
        refine ⟨val :: vals,by simp [m1],fun j r hj => ?_,?_,fun q hq => ?_⟩
        · cases j with
          | zero=>simp at hj; subst hj; exact ⟨val,rfl,k1⟩
          | succ j=>simpa using m2 j r (by simpa using hj)
        · rw [withOv_cons]
          simp only [RepVs]
          refine ⟨val,vals,rfl,?_,m3⟩
          rcases k2 with ⟨τ,x,rfl,_,cs,e,hcs⟩ | ⟨hd,_,hv⟩
          · simp only [headOv,RepV]
            exact ⟨cs,hcs _ hov,e⟩
          · rw [headOv_ne hd]; exact hv
        · rcases List.mem_append.1 hq with hq | hq
          · obtain ⟨⟨p,g⟩,hp,rfl⟩:=List.mem_map.1 hq
            rcases k2 with ⟨τ,x,rfl,hg,_⟩ | ⟨_,rfl,_⟩
            · obtain ⟨e,l,g1,g2⟩:=hg p g hp
              exact ⟨τ,x,e,l,by simp,g2,g1⟩
            · cases hp
          · obtain ⟨τ,x,e,l,g1,g2,g3⟩:=m4 q hq
            have:=hidx q hq
            refine ⟨τ,x,e,l,?_,g2,g3⟩
            rw [show q.1.1 - i=(q.1.1 - (i+1))+1 by omega]
            simpa using g1
      · cases hr
    · cases hr
theorem nodupIds_spec:(o:Keys)→nodupIds o=true→(o.map (·.2)).Nodup
  | [],_=>by simp
  | (k,g) :: r,h=>by
    simp only [nodupIds,Bool.and_eq_true,Bool.not_eq_true'] at h
    simp only [List.map_cons,List.nodup_cons,List.mem_map,not_exists,not_and]
    refine ⟨fun q hq e => ?_,nodupIds_spec r h.2⟩
    have:=List.any_eq_false.1 h.1 q hq
    rw [e] at this
    simp at this
theorem nodupKeys_spec:(o:Keys)→nodupKeys o=true→(o.map (·.1)).Nodup
  | [],_=>by simp
  | (k,g) :: r,h=>by
    simp only [nodupKeys,Bool.and_eq_true,Bool.not_eq_true'] at h
    simp only [List.map_cons,List.nodup_cons,List.mem_map,not_exists,not_and]
    refine ⟨fun q hq e => ?_,nodupKeys_spec r h.2⟩
    have:=List.any_eq_false.1 h.1 q hq
    rw [e] at this
    exact this (keyEq_iff.2 rfl)
def idsT (o:Keys) (g:Nat):Bool:=o.any fun q=>Nat.beq q.2 g
theorem idsT_iff {o:Keys} {g:Nat}:idsT o g=true↔∃ q,q∈o∧q.2=g:=by
  unfold idsT
  rw [List.any_eq_true]
  constructor
  · rintro ⟨q,h1,h2⟩; exact ⟨q,h1,Nat.eq_of_beq_eq_true h2⟩
  · rintro ⟨q,h1,h2⟩; exact ⟨q,h1,by rw [h2]; simp⟩
open Classical in
theorem ret_ok (st:St w0.w.heap.size w0 A ρ own w h) (sl:SlotsOk A ρ w s a) {rs:List RV} {fn:Func} (hc:chkRVs P rs fn.results.toList=true) {vs:List SV} {os:Keys} {ls:List Nat} (hr:resAll s h 0 rs=some (vs,os,ls)) :
    ∃ vals,(results fn a.tmps).run P w=.ok (bundleV vals) w∧ResOk w0.A w0.w w vs (freshOf os ls) vals:=by
  have main:∀ o:Keys,(∀ q,q∈o→q∈os)→(o=os∨o=[])→(o.map (·.2)).Nodup→(o.map (·.1)).Nodup→(∀ g,g∈ls→idsT o g=false) →
      ∃ vals,(results fn a.tmps).run P w=.ok (bundleV vals) w∧ResOk w0.A w0.w w vs (o.map (·.1)) vals:=fun o h1 h2 h3 h4 h5=>by
    let Aw:Nat→Prop:=fun b=>A b∨∃ g,own b=some g∧idsT o g=false
    let own':Nat→Option Nat:=fun b=>match own b with | some g=>if idsT o g then some g else none | none=>none
    have hown:∀ b g,own' b=some g↔own b=some g∧idsT o g=true:=fun b g=>by
      show (match own b with | some g=>if idsT o g then some g else none | none=>none)=some g↔_
      cases own b with
      | none=>simp
      | some g' =>
        simp only [Option.ite_none_right_eq_some,Option.some.injEq]
        constructor
        · rintro ⟨h,rfl⟩; exact ⟨rfl,h⟩
        · rintro ⟨rfl,h⟩; exact ⟨h,rfl⟩
    have hA:∀ b,A b→Aw b:=fun b hb=>.inl hb
    obtain ⟨vals,m1,m2,m3,m4⟩:=resAll_ok (Aw:=Aw) (T:=idsT o) (o:=o) hA (fun g b hg hb=>.inr ⟨g,hb,hg⟩) st sl rs fn.results.toList 0 hc hr h5 (fun j p g _=>by
      constructor
      · intro hm; exact ⟨h1 _ hm,idsT_iff.2 ⟨_,hm,rfl⟩⟩
      · rintro ⟨hm,ht⟩
        rcases h2 with rfl | rfl
        · exact hm
        · simp [idsT] at ht)
    refine ⟨vals,run_results (by simpa using m1) (fun j hj=>m2 j _ (by simp [hj])),st.below,Aw,ρ,own',o,rfl,h3,h4,m3,fun q hq => ?_,fun b g hg => ?_,fun b hb => ?_⟩
    · obtain ⟨τ,x,e,l,g1,g2,g3⟩:=m4 q (h1 q hq)
      refine ⟨τ,x,e,l,by simpa using g1,g2,?_⟩
      have ob:=st.objs q.2
      rw [g3] at ob
      obtain ⟨sp,n1,n2,n3,n4,n5,n6,n7,n8,n9⟩:=ob
      refine ⟨sp,n1,n2,n3,n4,n5,n6,n7,n8,fun hcap => ?_⟩
      obtain ⟨cs,k1,⟨k2,k3⟩,k4⟩:=n9 hcap
      exact ⟨cs,k1,⟨(hown _ _).2 ⟨k2,idsT_iff.2 ⟨q,hq,rfl⟩⟩,k3⟩,fun i hi=>RepC.wide hA (k4 i hi)⟩
    · obtain ⟨k1,k2⟩:=(hown b g).1 hg
      refine ⟨fun hb => ?_,st.base _ _ k1,st.oldO _ _ k1⟩
      rcases hb with hb | ⟨g',hb,hf⟩
      · exact st.apart _ _ k1 hb
      · rw [k1] at hb
        cases hb
        rw [k2] at hf; cases hf
    · rcases hb with hb | ⟨g',hb,hf⟩
      · exact ⟨st.imm b hb,st.old b hb⟩
      · exact ⟨.inr (st.base _ _ hb),st.oldO _ _ hb⟩
  unfold freshOf
  split
  · rename_i hn
    simp only [Bool.and_eq_true] at hn
    refine main os (fun _ h=>h) (.inl rfl) (nodupIds_spec os hn.1.1) (nodupKeys_spec os hn.1.2) (fun g hg => ?_)
    cases hx:idsT os g with
    | false=>rfl
    | true =>
      obtain ⟨q,hq,rfl⟩:=idsT_iff.1 hx
      have:=List.all_eq_true.1 hn.2 q hq
      rw [any_beq.2 hg] at this
      cases this
  · exact main [] (fun _ h=>by cases h) (.inr rfl) (by simp) (by simp) (fun _ _=>rfl)
def chkFn (P:Program) (f:FuncId) (g:Fn):Bool:=match P.funcs[f]? with
  | some fn=>(match fn.body with
    | some c => fn.name != "runtime.NumGoroutine" && chkRVs P g.res fn.results.toList && chkCd P (g.np + (fn.ntmps - g.np)) g.body c
    | none=>false)
  | none=>false
theorem slots_args:(i:Nat)→(as:List SV)→{vs:List Value}→RepVs A ρ w as vs→∀ j,RepV A ρ w (getS (argsS i as) j) (if i≤j then vs.getD (j - i) undef else undef)
  | i,[],vs,hr,j=>by simp only [argsS,getS,RepV]
  | i,u :: r,vs,hr,j=>by
    simp only [RepVs] at hr
    obtain ⟨v,vs',rfl,h1,h2⟩:=hr
    simp only [argsS,getS]
    cases hb:Nat.beq i j with
    | true =>
      have:=Nat.eq_of_beq_eq_true hb
      subst this
      simpa using h1
    | false =>
      have hne:=Nat.ne_of_beq_eq_false hb
      have:=slots_args (i+1) r h2 j
      by_cases hle:i+1≤j
      · rw [if_pos hle] at this
        rw [if_pos (by omega),show j - i=(j - (i+1))+1 by omega]
        simpa using this
      · rw [if_neg hle] at this
        rw [if_neg (by omega)]
        exact this
theorem gcall_sound (hm:P.follows .mixedOrders=true) {prog:FuncId→Option Fn} {sp:Calls} (hsp:CallOk P sp) (hp:∀ f g,prog f=some g→chkFn P f g=true):(n:Nat)→CallOk P (gcall prog sp n)
  | 0=>fun f args res r hr=>by simp [gcall] at hr
  | n+1=>fun f args res r hr=>by
    have ih:=gcall_sound hm hsp hp n
    simp only [gcall] at hr
    cases hf:prog f with
    | none=>rw [hf] at hr; exact hsp f args res r hr
    | some g =>
      rw [hf] at hr
      simp only [] at hr
      split at hr
      case h_2=>cases hr
      rename_i hnp
      have hnp:=Nat.eq_of_beq_eq_true hnp
      have hc:=hp f g hf
      unfold chkFn at hc
      cases hfn:P.funcs[f]? with
      | none=>rw [hfn] at hc; cases hc
      | some fn =>
        rw [hfn] at hc
        simp only [] at hc
        cases hbd:fn.body with
        | none=>rw [hbd] at hc; cases hc
        | some c =>
          rw [hbd] at hc
          simp only [Bool.and_eq_true] at hc
          obtain ⟨⟨c1,c2⟩,c3⟩:=hc
          refine ⟨by unfold callable; rw [hfn]; simp only [c1,hbd]; rfl,fun w A vs hAb hgl hrep => ?_⟩
          have hlen:=RepVs.len args hrep
          refine calls_of_wp hfn hbd ?_
          have hst:St w.heap.size ⟨w,A⟩ A (fun _=>none) (fun _=>none) w (getO []) :=
            { objs:=fun g=>rfl,apart:=(fun b g h=>by cases h),old:=hAb,oldO:=(fun b g h=>by cases h),base:=(fun b g h=>by cases h),below:=RowKit.Below.refl _ w,hB:=Nat.le_refl _,imm:=fun b h=>.inl h,names:=(fun g ⟨s,h⟩=>by cases h),glob:=hgl }
          have hret:∀ e:Ex,(∀ i,e≠.exit i)→KtOk (g.np+(fn.ntmps - g.np)) w.heap.size ⟨w,A⟩ r (retK g res) e (bodyPost P fn fun e w'=>∃ vals,e=.returned (bundleV vals)∧ResOk A w w' (injL res r.1) r.2 vals):=fun e he s h a w' hk hs=>by
            obtain ⟨A',ρ',own',st,sl,sz,df⟩:=hs
            have hk:(match resAll (getS s) (getO h) 0 g.res with
                | some (vs,o,l)=>(match prjL res vs with
                  | some x=>some (x,freshOf o l)
                  | none=>none)
                | none=>none)=some r:=by
              cases e with
              | norm=>exact hk
              | exit i=>exact absurd rfl (he i)
              | ret=>exact hk
            split at hk
            · rename_i vs' o l hres
              split at hk
              · rename_i x hx
                simp only [Option.some.injEq] at hk
                subst hk
                obtain ⟨vals,v1,v2⟩:=ret_ok (P:=P) (w0:=⟨w,A⟩) st sl c2 hres
                rw [prjL_inj res vs' hx] at v2
                cases e with
                | norm=>exact ⟨df,_,v1,vals,rfl,v2⟩
                | exit i=>exact absurd rfl (he i)
                | ret=>exact ⟨df,_,v1,vals,rfl,v2⟩
              · cases hk
            · cases hk
          refine code_ok ih hm g.body c c3 (hret .norm (by simp)) (fun e he => ?_) (lp:=n) (s:=argsS 0 args) (h:=[]) ?_ hr
          · cases e with
            | norm=>exact absurd rfl he
            | exit i=>exact fun s h a w hk _=>by simp [retK] at hk
            | ret=>exact hret .ret (by simp)
          · refine ⟨A,fun _=>none,fun _=>none,hst,fun j => ?_,?_,rfl⟩
            · have:=slots_args 0 args hrep j
              simp only [Nat.zero_le,if_true,Nat.sub_zero] at this
              have he:∀ v,vs[j]?=some v→(vs.toArray ++ Array.replicate (fn.ntmps - vs.toArray.size) undef).getD j undef=v:=fun v hv=>by
                have hlt:j<vs.length:=(List.getElem?_eq_some_iff.1 hv).1
                rw [Array.getD_eq_getD_getElem?,Array.getElem?_append_left (by simpa using hlt)]
                simp [hv]
              rcases Nat.lt_or_ge j vs.length with hj | hj
              · have hv:=List.getElem?_eq_getElem hj
                show RepV A _ w _ ((vs.toArray ++ Array.replicate (fn.ntmps - vs.toArray.size) undef).getD j undef)
                rw [he _ hv]
                rw [List.getD_eq_getElem?_getD,hv] at this
                exact this
              · have:getS (argsS 0 args) j=.junk:=by
                  have key:∀ (as:List SV) (i:Nat),i+as.length≤j→getS (argsS i as) j=.junk:=by
                    intro as
                    induction as with
                    | nil=>intro i _; rfl
                    | cons u r ihh =>
                      intro i hi
                      simp only [argsS,getS]
                      simp only [List.length_cons] at hi
                      cases hb:Nat.beq i j with
                      | true=>have:=Nat.eq_of_beq_eq_true hb; omega
                      | false=>exact ihh (i+1) (by omega)
                  exact key args 0 (by omega)
                rw [this]
                simp only [RepV]
            · simp only [Array.size_append,Array.size_replicate,List.size_toArray]
              rw [← hlen,hnp]
end
end Go.Proofs.YtjobjooccgledaaDoor.Ghost
namespace Go.Proofs.YtjobjooccgledaaDoor.Ghost
open Go
mutual
def wfD:(τ:Ty)→den τ→Prop
  | .bool,_=>True
  | .int k,x=>k.min≤x∧x≤k.max
  | .str,_=>True
  | .sl e,l=>List.length l≤maxLen∧∀ y:den e,y∈(l:List (den e))→wfD e y
  | .arr n e,l=>List.length l=n∧∀ y:den e,y∈(l:List (den e))→wfD e y
  | .st fs,x=>wfF fs x
def wfF:(fs:List Ty)→denL fs→Prop
  | [],_=>True
  | t :: r,x=>wfD t x.1∧wfF r x.2
end
theorem choose_list {α:Type} (d:α) {p:Nat→α→Prop}:(n:Nat)→(∀ i,i<n→∃ x,p i x)→∃ l:List α,l.length=n∧∀ i,i<n→p i (l.getD i d)
  | 0,_=>⟨[],rfl,fun i hi=>by omega⟩
  | n+1,h=>by
    obtain ⟨l,h1,h2⟩:=choose_list d n (fun i hi=>h i (by omega))
    obtain ⟨x,hx⟩:=h n (by omega)
    refine ⟨l ++ [x],by simp [h1],fun i hi => ?_⟩
    by_cases hin:i<n
    · have:=h2 i hin
      rw [List.getD_eq_getElem?_getD] at this ⊢
      rw [List.getElem?_append_left (by omega)]
      exact this
    · have:i=n:=by omega
      subst this
      rw [List.getD_eq_getElem?_getD,List.getElem?_append_right (by omega),h1]
      simpa using hx
theorem mem_getD {α:Type} {l:List α} {d y:α} (h:y∈l):∃ i,i<l.length∧l.getD i d=y:=by
  obtain ⟨i,hi,he⟩:=List.getElem_of_mem h
  exact ⟨i,hi,by rw [List.getD_eq_getElem?_getD,List.getElem?_eq_getElem hi]; exact he⟩
section
variable {H:Type} {enc:TypeId×Value→H} {P:Program} {w:World} {base:Nat} {spare:Nat→Bool} {held:Bool} {ρ:Refs}
theorem cellsOf_of {t:TypeId} {n:Nat} (h:sizeIs P t n=true):P.cellsOf t=n:=by
  obtain ⟨i,h1,h2⟩:=sizeIs_spec h
  simp [Program.cellsOf,h1,h2]
theorem cell_lt {a:Addr} {v:Value} (h:w.cell? a=some v):a.block<w.heap.size:=by
  unfold World.cell? at h
  split at h
  · rename_i hb; exact (Array.getElem?_eq_some_iff.1 hb).1
  · cases h
mutual
theorem trod_rep:(τ:Ty)→{t:TypeId}→{fuel:Nat}→{cs:List Value}→{x:DataW H×List MemPlace}→descOk P τ t=true→sizeIs P t (tsize τ)=true→DataW.trod enc P w base spare held fuel t cs=some x →
    ∃ y:den τ,RepC (fun b=>b<w.heap.size) ρ w τ y [] cs∧wfD τ y
  | .bool,t,fuel,cs,x,hd,_,h=>by
    simp only [descOk] at hd
    split at hd
    · rename_i hu
      obtain ⟨b,rfl,_⟩:=DataW.trod_bool hu h
      exact ⟨b,by simp only [RepC],trivial⟩
    · cases hd
  | .int k,t,fuel,cs,x,hd,_,h=>by
    simp only [descOk] at hd
    split at hd
    · rename_i k' hu
      have:=of_decide_eq_true hd
      subst this
      obtain ⟨n,rfl,_,hw⟩:=DataW.trod_int hu h
      simp only [Lit.wf,Bool.and_eq_true,decide_eq_true_eq] at hw
      exact ⟨n,by simp only [RepC],hw⟩
    · cases hd
  | .str,t,fuel,cs,x,hd,_,h=>by
    simp only [descOk] at hd
    split at hd
    · rename_i hu
      obtain ⟨s,rfl,_⟩:=DataW.trod_string hu h
      exact ⟨s,by simp only [RepC],trivial⟩
    · cases hd
  | .sl e,t,fuel,cs,x,hd,_,h=>by
    simp only [descOk] at hd
    split at hd
    · rename_i e' hu
      simp only [Bool.and_eq_true,Nat.blt_eq] at hd
      obtain ⟨⟨d1,d2⟩,d3⟩:=hd
      have hco:=cellsOf_of d2
      rcases Go.Deep.open_slice hu h with ⟨rfl,_⟩ | ⟨a,len,cap,m,n,D,Pl,rfl,_,hl,hm,hmm,_,hx⟩
      · refine ⟨([]:List (den e)),?_,?_⟩
        · simp only [RepC]
          exact ⟨none,0,0,rfl,fun g hg=>by simp at hg,fun _=>⟨rfl,Nat.le_refl _,fun hp=>by omega⟩⟩
        · simp only [wfD]
          exact ⟨Nat.zero_le _,fun y hy=>by cases hy⟩
      · have hlm:len≤m:=by rw [hmm]; split <;> omega
        obtain ⟨cf,hcf⟩:=Go.Deep.choose_lt (α:=List Value) (p:=fun i cs'=>w.cells? base (a.add (i * P.cellsOf e')) (P.cellsOf e')=some cs'∧DataW.trod enc P w base spare held n e' cs'=some (D i,Pl i)) hx
        obtain ⟨l,l1,l2⟩:=choose_list (dft e) (p:=fun i y=>RepC (fun b=>b<w.heap.size) ρ w e y [] (cf i)∧wfD e y) len (fun i hi=>trod_rep e d1 d2 (hcf i (by omega)).2)
        refine ⟨l,?_,?_⟩
        · simp only [RepC]
          refine ⟨some a,len,cap,rfl,fun g hg=>by simp at hg,fun _=>⟨l1.symm,hl,fun hp => ?_⟩⟩
          have hcell:∀ i,i<len→∀ j,j<tsize e→w.cell? ((a.add (i * tsize e)).add j)=(cf i)[j]?:=fun i hi j hj=>by
            have:=(hcf i (by omega)).1
            rw [hco] at this
            exact (World.cells?_some this).2.2 j hj
          have hlen:∀ i,i<len→(cf i).length=tsize e:=fun i hi=>by
            have:=(hcf i (by omega)).1
            rw [hco] at this
            exact (World.cells?_some this).2.1
          obtain ⟨b,o,sp⟩:=a
          have h0:=hcell 0 hp 0 d3
          have hc0:∃ v,(cf 0)[0]?=some v:=⟨_,List.getElem?_eq_getElem (by rw [hlen 0 hp]; exact d3)⟩
          obtain ⟨v0,hv0⟩:=hc0
          rw [hv0] at h0
          have hsp:sp=none:=by
            have:=World.cell?_spot h0
            simpa [Addr.add] using this
          subst hsp
          have hlt:=cell_lt h0
          have hlt:b<w.heap.size:=by simpa [Addr.add] using hlt
          have hadd:∀ i j:Nat,((Addr.mk b o none).add (i * tsize e)).add j=(⟨b,o+(i * tsize e+j),none⟩:Addr):=fun i j=>by
            unfold Addr.add
            by_cases h1:i * tsize e=0
            · by_cases h2:j=0
              · simp [h1,h2]
              · simp [h1,h2]
            · by_cases h2:j=0
              · simp [h1,h2]
              · simp [h1,h2,Nat.add_assoc]
          let vs:List Value:=(List.range len).map fun i=>Value.agg (cf i).toArray
          have hvs:∀ i,i<len→vs[i]?=some (Value.agg (cf i).toArray):=fun i hi=>by
            show ((List.range len).map fun i=>Value.agg (cf i).toArray)[i]?=_
            rw [List.getElem?_map,List.getElem?_range hi]; rfl
          have hvl:vs.length=len:=by show ((List.range len).map _).length=len; simp
          have hsz:∀ v,v∈vs→v.cells.size=tsize e:=fun v hv=>by
            obtain ⟨i,hi,rfl⟩:=List.mem_map.1 hv
            simp only [Value.cells,List.size_toArray]
            exact hlen i (List.mem_range.1 hi)
          have hds:(cellsL vs).length=len * tsize e:=by rw [length_cellsL_same vs hsz,hvl]
          have hcut:∀ i,i<len→cut (cellsL vs) (i * tsize e) (tsize e)=cf i:=fun i hi=>by
            rw [cut_cellsL vs hsz i _ (hvs i hi)]
            simp [Value.cells]
          refine ⟨b,o,cellsL vs,rfl,hlt,?_,hds,?_⟩
          · intro k v hv
            have hk:k<len * tsize e:=by rw [← hds]; exact (List.getElem?_eq_some_iff.1 hv).1
            have hi:k / tsize e<len:=Nat.div_lt_of_lt_mul (by rw [Nat.mul_comm]; exact hk)
            have hj:=Nat.mod_lt k d3
            have hm:=Nat.div_add_mod k (tsize e)
            have h1:=hcell _ hi _ hj
            rw [hadd] at h1
            have h2:(cut (cellsL vs) (k / tsize e * tsize e) (tsize e))[k % tsize e]?=(cellsL vs)[k]?:=by
              rw [getElem?_cut,if_pos hj,Nat.mul_comm,hm]
            rw [← hcut _ hi,h2,hv] at h1
            rw [show k / tsize e * tsize e+k % tsize e=k by rw [Nat.mul_comm]; exact hm] at h1
            exact h1
          · intro i hi
            have:=(l2 i hi).1
            rw [← hcut i hi] at this
            exact this
        · simp only [wfD]
          refine ⟨by rw [l1]; omega,fun y hy => ?_⟩
          obtain ⟨i,hi,he⟩:=mem_getD (d:=dft e) hy
          rw [← he]
          exact (l2 i (by omega)).2
    · cases hd
  | .arr n e,t,fuel,cs,x,hd,hs,h=>by
    simp only [descOk] at hd
    split at hd
    · rename_i n' e' hu
      simp only [Bool.and_eq_true,Nat.blt_eq] at hd
      obtain ⟨⟨⟨d0,d1⟩,d2⟩,d3⟩:=hd
      have:=Nat.eq_of_beq_eq_true d0
      subst this
      have hco:=cellsOf_of d2
      obtain ⟨xs,m,_,_,hlen,hxs,hx⟩:=DataW.trod_array hu h
      rw [cellsOf_of hs] at hlen
      obtain ⟨l,l1,l2⟩:=choose_list (dft e) (p:=fun i y=>RepC (fun b=>b<w.heap.size) ρ w e y [] ((cs.drop (i * tsize e)).take (tsize e))∧wfD e y) n' (fun i hi=>by
        have h1:=hx i hi
        rw [hco,List.getElem?_eq_getElem (by omega)] at h1
        exact trod_rep e d1 d2 h1)
      refine ⟨l,?_,?_⟩
      · simp only [RepC]
        exact ⟨l1,hlen,fun i hi=>(l2 i hi).1⟩
      · simp only [wfD]
        refine ⟨l1,fun y hy => ?_⟩
        obtain ⟨i,hi,he⟩:=mem_getD (d:=dft e) hy
        rw [← he]
        exact (l2 i (by omega)).2
    · cases hd
  | .st fs,t,fuel,cs,x,hd,hs,h=>by
    simp only [descOk] at hd
    split at hd
    · rename_i l hu
      obtain ⟨xs,n,_,_,hlen,hxs,hx⟩:=DataW.trod_struct hu h
      rw [cellsOf_of hs] at hlen
      obtain ⟨y,y1,y2⟩:=trod_repF fs (cs0:=cs) (cs:=cs) (n:=n) (j:=0) hd rfl hlen (fun i f hf=>by
        have hf':l[i]?=some f:=by simpa using hf
        have h1:=hx i f hf'
        have hlt:i<xs.length:=by rw [hxs]; exact (Array.getElem?_eq_some_iff.1 hf').1
        rw [List.getElem?_eq_getElem hlt] at h1
        exact ⟨_,h1⟩)
      exact ⟨y,by simp only [RepC]; exact y1,by simp only [wfD]; exact y2⟩
    · cases hd
theorem trod_repF:(fs:List Ty)→{o:Nat}→{l:List Field}→{cs0 cs:List Value}→{n j:Nat}→fieldsOk P fs o l=true→cs=cs0.drop o→cs.length=tsizeL fs→(∀ (i:Nat) (f:Field),l[i]?=some f→∃ x,DataW.trod enc P w base spare held n f.type ((cs0.drop f.offset).take (P.cellsOf f.type))=some x) →
    ∃ y:denL fs,RepF (fun b=>b<w.heap.size) ρ w fs j y [] cs∧wfF fs y
  | [],o,l,cs0,cs,n,j,hf,hc,hl,hx=>by
    refine ⟨(),?_,trivial⟩
    simp only [RepF]
    exact List.length_eq_zero_iff.1 (by simpa [tsizeL] using hl)
  | t :: r,o,[],cs0,cs,n,j,hf,hc,hl,hx=>by cases hf
  | t :: r,o,f :: s,cs0,cs,n,j,hf,hc,hl,hx=>by
    simp only [fieldsOk,Bool.and_eq_true,Nat.blt_eq] at hf
    obtain ⟨⟨⟨⟨h1,h2⟩,h3⟩,h4⟩,h5⟩:=hf
    have h1:=Nat.eq_of_beq_eq_true h1
    obtain ⟨x,hx0⟩:=hx 0 f rfl
    rw [h1,cellsOf_of h2,← hc] at hx0
    obtain ⟨y,y1,y2⟩:=trod_rep t h4 h2 hx0
    simp only [tsizeL] at hl
    obtain ⟨z,z1,z2⟩:=trod_repF r (j:=j+1) (cs:=cs.drop (tsize t)) (cs0:=cs0) h5 (by rw [hc,List.drop_drop]) (by rw [List.length_drop]; omega) (fun i f hf=>hx (i+1) f (by simpa using hf))
    refine ⟨(y,z),?_,?_⟩
    · simp only [RepF]
      exact ⟨y1,z1⟩
    · simp only [wfF]
      exact ⟨y2,z2⟩
end
end
end Go.Proofs.YtjobjooccgledaaDoor.Ghost
namespace Go.Proofs.YtjobjooccgledaaDoor.Ghost
open Go
section
variable {H:Type} {enc:TypeId×Value→H} {P:Program} {w:World} {base:Nat} {spare:Nat→Bool} {held:Bool} {ρ:Refs}
theorem arg_rep (τ:Ty) {t:TypeId} {v:Value} {d:DataW H} {ps:List MemPlace} {r:Reach} {b0:Nat} (hd:descOk P τ t=true) (hs:sizeIs P t (tsize τ)=true) (hv:Value.okWide P w r b0 t v) (h:DataW.Trod enc P w base spare held t v d ps) :
    ∃ y:den τ,RepV (fun b=>b<w.heap.size) ρ w (.dat τ y []) v∧wfD τ y:=by
  obtain ⟨fuel,hf⟩:=h
  obtain ⟨y,h1,h2⟩:=trod_rep (ρ:=ρ) τ hd hs hf
  refine ⟨y,?_,h2⟩
  simp only [RepV]
  refine ⟨_,h1,?_⟩
  cases τ with
  | bool =>
    simp only [descOk] at hd
    split at hd
    · rename_i hu; obtain ⟨b,rfl⟩:=Go.WideShapes.okWide_bool hu hv; rfl
    · cases hd
  | int k =>
    simp only [descOk] at hd
    split at hd
    · rename_i k' hu; obtain ⟨b,rfl⟩:=Go.WideShapes.okWide_int hu hv; rfl
    · cases hd
  | str =>
    simp only [descOk] at hd
    split at hd
    · rename_i hu; obtain ⟨b,rfl⟩:=Go.WideShapes.okWide_string hu hv; rfl
    · cases hd
  | sl e =>
    simp only [descOk] at hd
    split at hd
    · rename_i e' hu; obtain ⟨a,n,c,rfl⟩:=Go.WideShapes.okWide_slice hu hv; rfl
    · cases hd
  | arr n e =>
    simp only [descOk] at hd
    split at hd
    · rename_i n' e' hu
      unfold Value.okWide at hv
      rw [hu] at hv
      obtain ⟨cs,rfl,_⟩:=hv
      simp [mkV,isAg,Value.cells]
    · cases hd
  | st fs =>
    simp only [descOk] at hd
    split at hd
    · rename_i l hu; obtain ⟨cs,rfl,_⟩:=Go.WideShapes.okWide_struct hu hv; simp [mkV,isAg,Value.cells]
    · cases hd
theorem args_nil {A:Nat→Prop}:RepVs A ρ w [] []:=by simp only [RepVs]
theorem args_cons {A:Nat→Prop} {u:SV} {v:Value} {us:List SV} {vs:List Value} (h1:RepV A ρ w u v) (h2:RepVs A ρ w us vs):RepVs A ρ w (u :: us) (v :: vs):=by
  simp only [RepVs]; exact ⟨v,vs,rfl,h1,h2⟩
theorem law_calls {cf:Calls} (hcf:CallOk P cf) {f:FuncId} {args:List SV} {fr:Fresh} (h:cf f args [.d .bool]=some ((true,()),fr)) {vs:List Value} (hgl:GlobOk (fun b=>b<w.heap.size) w) (hr:RepVs (fun b=>b<w.heap.size) (fun _=>none) w args vs) :
    Go.Calls P f vs.toArray w (fun e w'=>e=.returned (.bool true)∧RowKit.Below w.heap.size w w'):=by
  refine Calls.mono ((hcf f args [.d .bool] _ h).2 w _ vs (fun b hb=>hb) hgl hr) (fun e w' he => ?_)
  obtain ⟨vals,rfl,hb,A',ρ',own',o,fr⟩:=he
  have:=fr.rep
  simp only [injL,inj,withOv_cons,headOv,withOv,RepVs] at this
  obtain ⟨v,vs',rfl,h1,rfl⟩:=this
  exact ⟨by rw [repV_bool h1]; rfl,hb⟩
end
end Go.Proofs.YtjobjooccgledaaDoor.Ghost
namespace Go.Proofs.YtjobjooccgledaaDoor.Ghost
open Go
section
variable {P:Program}
theorem retK_ok {N:Nat} {w:World} {A:Nat→Prop} {fn:Func} {g:Fn} {res:List Sh} {r:dShL res×Fresh} (c2:chkRVs P g.res fn.results.toList=true) (e:Ex) (he:∀ i,e≠.exit i) :
    KtOk N w.heap.size ⟨w,A⟩ r (retK g res) e (bodyPost P fn fun e w'=>∃ vals,e=.returned (bundleV vals)∧ResOk A w w' (injL res r.1) r.2 vals):=fun s h a w' hk hs=>by
  obtain ⟨A',ρ',own',st,sl,sz,df⟩:=hs
  have hk:(match resAll (getS s) (getO h) 0 g.res with
      | some (vs,o,l)=>(match prjL res vs with
        | some x=>some (x,freshOf o l)
        | none=>none)
      | none=>none)=some r:=by
    cases e with
    | norm=>exact hk
    | exit i=>exact absurd rfl (he i)
    | ret=>exact hk
  split at hk
  · rename_i vs' o l hres
    split at hk
    · rename_i x hx
      simp only [Option.some.injEq] at hk
      subst hk
      obtain ⟨vals,v1,v2⟩:=ret_ok (P:=P) (w0:=⟨w,A⟩) st sl c2 hres
      rw [prjL_inj res vs' hx] at v2
      cases e with
      | norm=>exact ⟨df,_,v1,vals,rfl,v2⟩
      | exit i=>exact absurd rfl (he i)
      | ret=>exact ⟨df,_,v1,vals,rfl,v2⟩
    · cases hk
  · cases hk
theorem retK_exits {N B:Nat} {w0:Start} {g:Fn} {res:List Sh} {r:dShL res×Fresh} {Q:Exit→Act→World→Prop} (i:Nat):KtOk N B w0 r (retK g res) (.exit i) Q:=fun s h a w hk _=>by simp [retK] at hk
theorem entry_ok {n k:Nat} {w:World} {A:Nat→Prop} {args:List SV} {vs:List Value} (hA:∀ b,A b→b<w.heap.size) (hgl:GlobOk A w) (hr:RepVs A (fun _=>none) w args vs) (hn:args.length=n) :
    Is (n+(k - n)) w.heap.size ⟨w,A⟩ (getS (argsS 0 args)) (getO []) { tmps:=vs.toArray ++ Array.replicate (k - vs.toArray.size) undef,defers:=[] } w:=by
  have hlen:=RepVs.len args hr
  have hst:St w.heap.size ⟨w,A⟩ A (fun _=>none) (fun _=>none) w (getO []) :=
    { objs:=fun g=>rfl,apart:=(fun b g h=>by cases h),old:=hA,oldO:=(fun b g h=>by cases h),base:=(fun b g h=>by cases h),below:=RowKit.Below.refl _ w,hB:=Nat.le_refl _,imm:=fun b h=>.inl h,names:=(fun g ⟨s,h⟩=>by cases h),glob:=hgl }
  refine ⟨A,fun _=>none,fun _=>none,hst,fun j => ?_,?_,rfl⟩
  · have:=slots_args 0 args hr j
    simp only [Nat.zero_le,if_true,Nat.sub_zero] at this
    rcases Nat.lt_or_ge j vs.length with hj | hj
    · have hv:=List.getElem?_eq_getElem hj
      have he:(vs.toArray ++ Array.replicate (k - vs.toArray.size) undef).getD j undef=vs[j]:=by
        rw [Array.getD_eq_getD_getElem?,Array.getElem?_append_left (by simpa using hj)]
        simp [hv]
      show RepV A _ w _ ((vs.toArray ++ Array.replicate (k - vs.toArray.size) undef).getD j undef)
      rw [he]
      rw [List.getD_eq_getElem?_getD,hv] at this
      exact this
    · have:getS (argsS 0 args) j=.junk:=by
        have key:∀ (as:List SV) (i:Nat),i+as.length≤j→getS (argsS i as) j=.junk:=by
          intro as
          induction as with
          | nil=>intro i _; rfl
          | cons u r ihh =>
            intro i hi
            simp only [argsS,getS]
            simp only [List.length_cons] at hi
            cases hb:Nat.beq i j with
            | true=>have:=Nat.eq_of_beq_eq_true hb; omega
            | false=>exact ihh (i+1) (by omega)
        exact key args 0 (by omega)
      rw [this]
      simp only [RepV]
  · simp only [Array.size_append,Array.size_replicate,List.size_toArray]
    rw [← hlen,hn]
def chkIsNil (P:Program) (o:Oper):Bool:=match o.op with
  | .binOp .eql T (.tmp 3) (.const (.slice none 0 0)) _=>(match P.underlying T with | some (.slice _)=>true | _=>false) && (match o.dst with | some d=>Nat.beq d 4 | none=>false) && o.guard.isNone
  | _=>false
theorem isNil_run {o:Oper} {a:Act} {w:World} (hc:chkIsNil P o=true) {ad:Option Addr} {n c:Nat} (hv:a.eval (.tmp 3)=.slice ad n c):(execOp a.eval o).run P w=.ok (.value (.bool ad.isNone)) w∧o.dst=some 4∧o.guard=none:=by
  unfold chkIsNil at hc
  split at hc
  · rename_i T T' ho
    simp only [Bool.and_eq_true] at hc
    obtain ⟨⟨h1,h2⟩,h3⟩:=hc
    refine ⟨?_,?_,by simpa using h3⟩
    · split at h1
      · rename_i e hu
        have he:a.eval (.const (.slice none 0 0))=.slice none 0 0:=rfl
        have key:(Go.Op.equal T (.slice ad n c) (.slice none 0 0)).run P w=.ok ad.isNone w:=by
          have k:∀ d,(Go.Op.equalIn (d+1) T (.slice ad n c) (.slice none 0 0)).run P w=.ok ad.isNone w:=fun d=>by
            unfold Go.Op.equalIn
            cases ad <;> simp [run_underlying hu]
          exact k _
        simp only [execOp,ho,hv,he,Sem.run_bind]
        have h0:(eqGuard .eql T (.tmp 3) (.const (.slice none 0 0)) (.slice ad n c) (.slice none 0 0)).run P w=.ok () w:=by
          unfold eqGuard; rfl
        simp only [h0,Result.andThen_ok,Go.binOp,Sem.run_bind,key,Sem.run_pure]
      · cases h1
    · split at h2
      · rename_i d hd; rw [hd,Nat.eq_of_beq_eq_true h2]
      · cases h2
  · cases hc
def cl0 (e:Ty):Cd:=.reg false [⟨some 2,.mknil 0 e,none,[],[]⟩]
def clB (e:Ty):Cd:=.cond (.t 4) (.seq (.reg false [⟨some 2,.mknil 1 e,none,[],[]⟩]) .ret) .skip
def clC (e:Ty):Cd:=.seq (.reg false [⟨some 5,.slice 1 e [],none,[],[]⟩,⟨some 6,.move (.t 0),none,[],[]⟩,⟨some 7,.append 2 e (.t 5) (.t 6),none,[],[]⟩,⟨some 2,.move (.t 7),none,[],[]⟩]) .ret
def cloneOk (P:Program) (f:FuncId) (e:Ty):Bool:=match P.funcs[f]? with
  | some fn => fn.name != "runtime.NumGoroutine" && chkRVs P [.tmp 2] fn.results.toList && (match fn.body with
    | some (.seq R0 (.seq (.seq (.region _ ops false) C) S3))=>chkCd P (1+(fn.ntmps - 1)) (cl0 e) R0 && chkCd P (1+(fn.ntmps - 1)) (clB e) C && chkCd P (1+(fn.ntmps - 1)) (clC e) S3 && Nat.blt 4 (1+(fn.ntmps - 1)) && (match ops.toList with
      | [o0,o1]=>chkLn P (1+(fn.ntmps - 1)) ops ⟨some 3,.move (.t 0),none,[],[]⟩ o0 && chkIsNil P o1
      | _=>false)
    | _=>false)
  | none=>false
theorem tyEq_self (a:Ty):tyEq a a=some ⟨rfl⟩:=by
  have h:=castT_self (dft a)
  unfold castT at h
  split at h
  · rename_i hh; exact hh
  · cases h
def noCalls:Calls:=fun _ _ _=>none
theorem noCalls_ok:CallOk P noCalls:=fun f args res r h=>by cases h
theorem clone_calls (hm:P.follows .mixedOrders=true) {f:FuncId} {e:Ty} (hc:cloneOk P f e=true) {x:List (den e)} (hx:List.length x≤1048576) {w:World} {A:Nat→Prop} {vs:List Value} (hA:∀ b,A b→b<w.heap.size) (hgl:GlobOk A w)
    (hr:RepVs A (fun _=>none) w [.dat (.sl e) x []] vs):callable P f=true∧Go.Calls P f vs.toArray w (fun en w'=>∃ vals,en=.returned (bundleV vals)∧ResOk A w w' [.dat (.sl e) x []] [(0,[])] vals):=by
  unfold cloneOk at hc
  cases hf:P.funcs[f]? with
  | none=>rw [hf] at hc; cases hc
  | some fn =>
    rw [hf] at hc
    simp only [Bool.and_eq_true] at hc
    obtain ⟨⟨c1,c2⟩,c3⟩:=hc
    split at c3
    case h_2=>cases c3
    rename_i R0 rid ops C S3 hbd
    simp only [Bool.and_eq_true,Nat.blt_eq] at c3
    obtain ⟨⟨⟨⟨d0,dB⟩,dC⟩,d4⟩,dO⟩:=c3
    split at dO
    case h_2=>cases dO
    rename_i o0 o1 hops
    simp only [Bool.and_eq_true] at dO
    refine ⟨by unfold callable; rw [hf]; simp only [c1,hbd]; rfl,?_⟩
    have hzero:ops[0]?=some o0:=by rw [← Array.getElem?_toList,hops]; rfl
    have hone:ops[1]?=some o1:=by rw [← Array.getElem?_toList,hops]; rfl
    have hsz:ops.size=2:=by rw [← Array.length_toList,hops]; rfl
    refine calls_of_wp hf hbd ?_
    let fin:dShL [Sh.d (.sl e)]×Fresh:=((x,()),[(0,[])])
    let g:Fn:=⟨1,[.tmp 2],.skip⟩
    have hret:=retK_ok (P:=P) (N:=1+(fn.ntmps - 1)) (w:=w) (A:=A) (fn:=fn) (g:=g) (res:=[.d (.sl e)]) (r:=fin) c2
    have h0:=entry_ok (n:=1) (k:=fn.ntmps) hA hgl hr rfl
    let s0:Slots:=[(0,.dat (.sl e) x []),(2,.dat (.sl e) [] [([],some 0)])]
    refine wp_seq (code_ok (R:=Slots×Heap) (r:=(s0,[.arr e []])) (lp:=0) noCalls_ok hm (cl0 e) R0 d0 (Kn:=fun _ s h=>some (s,h)) (K:=fun _ _ _=>none) (fun s h a w' hk hs => ?_) (fun _ _ s h a w' hk _=>by cases hk) h0 rfl)
    simp only [Option.some.injEq,Prod.mk.injEq] at hk
    obtain ⟨rfl,rfl⟩:=hk
    show Code.wp P _ _ a w'
    refine wp_seq (wp_seq (wp_region ?_))
    rw [hsz,List.range_eq_range']
    show wpOps P ops _ [0,1] a w'
    rw [wpOps_cons]
    refine step_is (draw:=false) hzero hs noCalls_ok dO.1 (v:=.dat (.sl e) x []) (e:=[]) ⟨(fun h=>by cases h),rfl⟩ (fun a1 w1 hs1 => ?_)
    rw [wpOps_cons]
    obtain ⟨A1,ρ1,own1,st1,sl1,sz1,df1⟩:=hs1
    have h3:=sl1 3
    have h3':RepV A1 ρ1 w1 (.dat (.sl e) x []) (a1.eval (.tmp 3)):=h3
    simp only [RepV,RepC] at h3'
    obtain ⟨cs,⟨ad,n,c,rfl,_,hl⟩,hv⟩:=h3'
    obtain ⟨hl1,hl2⟩:=hl (fun o ho=>by cases ho)
    have hv:a1.eval (.tmp 3)=.slice ad n c:=hv
    obtain ⟨k1,k2,k3⟩:=isNil_run (w:=w1) dO.2 hv
    unfold wpOp
    simp only [hone,Region.wanted,k3,if_true]
    refine .inl ?_
    unfold Oper.wp
    rw [k1]
    rw [Oper.upon_value,k2]
    simp only [wpOps]
    show Code.wp P C _ _ _
    have hs2:Is (1+(fn.ntmps - 1)) w.heap.size ⟨w,A⟩ (getS (s0 ++ [(3,.dat (.sl e) x []),(4,.dat .bool ad.isNone [])])) (getO [.arr e []]) (a1.put (some 4) (.bool ad.isNone)) w1:=by
      refine ⟨A1,ρ1,own1,st1,?_,by rw [size_put]; exact sz1,by rw [defers_put]; exact df1⟩
      have:=SlotsOk.put (d:=some 4) (v:=.dat .bool ad.isNone []) (v':=.bool ad.isNone) sl1 (Later.refl A1 ρ1 w1) (fun i hi=>by cases hi; rw [sz1]; exact d4) mk_bool
      intro i
      have h1:=this i
      have he:getS (s0 ++ [(3,.dat (.sl e) x []),(4,.dat .bool ad.isNone [])]) i=putF (putF (getS s0) (some 3) (.dat (.sl e) x [])) (some 4) (.dat .bool ad.isNone []) i:=by
        rcases i with _ | _ | _ | _ | _ | i <;> rfl
      rw [he]; exact h1
    cases ad with
    | none =>
      have hx0:x=[]:=by
        rcases Nat.eq_zero_or_pos n with h | h
        · exact List.length_eq_zero_iff.1 (by omega)
        · obtain ⟨b,o,ds,hb,_⟩:=hl2.2 h
          cases hb
      subst hx0
      refine code_ok (R:=dShL [Sh.d (.sl e)]×Fresh) (r:=fin) (lp:=0) noCalls_ok hm (clB e) C dB (Kn:=fun _ _ _=>none) (K:=retK g [.d (.sl e)]) (fun s h a w' hk _=>by cases hk) (fun ex hex => ?_) hs2 (by simp [clB,clC,run,evO,runLns,opLn,gop,getS,putO,putS,applyE,setO,getO,retK,resAll,resOne,resOne.resFin,resOne.ovOwn,ovFine,stPath,Ghost.resolve,setP,castT_self,tyEq_self,prjL,prj,freshOf,nodupIds,nodupKeys,partsG,ovIds,s0,g,fin])
      cases ex with
      | norm=>exact absurd rfl hex
      | exit i=>exact retK_exits i
      | ret=>exact hret .ret (by simp)
    | some ad =>
      refine code_ok (R:=Slots×Heap) (r:=(s0 ++ [(3,.dat (.sl e) x []),(4,.dat .bool false [])],[.arr e []])) (lp:=0) noCalls_ok hm (clB e) C dB (Kn:=fun _ s h=>some (s,h)) (K:=fun _ _ _=>none) (fun s h a w' hk hs => ?_) (fun _ _ s h a w' hk _=>by cases hk) hs2 rfl
      simp only [Option.some.injEq,Prod.mk.injEq] at hk
      obtain ⟨rfl,rfl⟩:=hk
      show Code.wp P S3 _ a w'
      refine code_ok (R:=dShL [Sh.d (.sl e)]×Fresh) (r:=fin) (lp:=0) noCalls_ok hm (clC e) S3 dC (Kn:=fun _ _ _=>none) (K:=retK g [.d (.sl e)]) (fun s h a w' hk _=>by cases hk) (fun ex hex => ?_) hs ?_
      · cases ex with
        | norm=>exact absurd rfl hex
        | exit i=>exact retK_exits i
        | ret=>exact hret .ret (by simp)
      · simp [clB,clC,run,evO,runLns,opLn,gop,getS,putO,putS,applyE,setO,getO,retK,resAll,resOne,resOne.resFin,resOne.ovOwn,ovFine,stPath,Ghost.resolve,setP,castT_self,tyEq_self,prjL,prj,freshOf,nodupIds,nodupKeys,partsG,ovIds,s0,g,fin,hx]
end
end Go.Proofs.YtjobjooccgledaaDoor.Ghost
namespace Go.Proofs.YtjobjooccgledaaDoor.Ghost
open Go
section
variable {P:Program}
def GrowNil (P:Program) (gf:FuncId):Prop:=callable P gf=true∧∀ (n:Nat) (w:World),n≤2097152→Go.Calls P gf #[.slice none 0 0,.int .i64 n] w (fun en w' =>
  (en=.returned (.slice none 0 0)∧w'=w)∨∃ c cs T,en=.returned (.slice (some ⟨w.heap.size,0,none⟩) 0 c)∧Array.size cs=c∧w'=w.drew.alloc (.cells cs T))
def chkGrow (P:Program) (gf:FuncId) (j d:Nat) (o:Oper):Bool:=(match o.op with
  | .call c=>(match c.callee with | .value g=>chkOpd (.f gf) g | _=>false) && (match c.args.toList with | [.const (.slice none 0 0),.tmp i]=>Nat.beq i j | _=>false)
  | _=>false) && o.guard.isNone && (match o.dst with | some x=>Nat.beq x d | none=>false)
theorem St.drew {B:Nat} {w0:Start} {A:Nat→Prop} {ρ:Refs} {own:Nat→Option Nat} {w:World} {h:Nat→Obj} (st:St B w0 A ρ own w h):St B w0 A ρ own w.drew h :=
  { objs:=fun g=>RepO.mono (w:=w) (w':=w.drew) (fun _ h=>h) (fun _ _ h=>h) (fun _ _=>rfl) (fun _ h=>h) (fun h=>h) (st.objs g),apart:=st.apart,old:=st.old,oldO:=st.oldO,base:=st.base,below:=st.below.drew,hB:=st.hB,imm:=st.imm,names:=st.names,glob:=GlobOk.mono (w:=w) (w':=w.drew) (fun _ h=>h) (fun _ _=>rfl) st.glob }
theorem good_grow {o:Oper} {a:Act} {w:World} {B:Nat} {w0:Start} {A:Nat→Prop} {ρ:Refs} {own:Nat→Option Nat} {h:Nat→Obj} {s:Nat→SV} (st:St B w0 A ρ own w h) (hs:SlotsOk A ρ w s a) {gf:FuncId} (hg:GrowNil P gf) {j d:Nat} (hc:chkGrow P gf j d o=true) {k:Nat} (hk:h k=.none)
    {n:Nat} (hn:s j=.dat (.int .i64) (n:Int) []) (hle:n≤2097152):OpGood P o a w B w0 A ρ (.dat (.sl (.int .i64)) [] [([],some k)]) (appE h [(k,.arr (.int .i64) [])])∧o.guard=none∧o.dst=some d:=by
  unfold chkGrow at hc
  simp only [Bool.and_eq_true] at hc
  obtain ⟨⟨hc,hgd⟩,hd⟩:=hc
  split at hc
  case h_2=>cases hc
  rename_i c ho
  simp only [Bool.and_eq_true] at hc
  obtain ⟨hf,hargs⟩:=hc
  split at hf
  case h_2=>cases hf
  rename_i g hcal
  split at hargs
  case h_2=>cases hargs
  rename_i i hargs'
  have hij:=Nat.eq_of_beq_eq_true hargs
  subst hij
  refine ⟨?_,by simpa using hgd,?_⟩
  · have k1:=opd_ok hs hf
    simp only [evO,RepV] at k1
    obtain ⟨capv,hgv,k3⟩:=k1
    simp only [RepVs] at k3
    subst k3
    have kj:=hs i
    rw [hn] at kj
    have kj:=repV_int kj
    have hex:=run_call (P:=P) (w:=w) ho hcal hgv hg.1
    have hav:c.args.map a.eval ++ #[] = #[.slice none 0 0,.int .i64 n]:=by
      rw [Array.append_empty,← Array.toList_inj,Array.toList_map,hargs']
      simp only [List.map_cons,List.map_nil,kj]
      rfl
    intro next Q K
    unfold Oper.wp
    rw [hex,Oper.upon_enter,hav]
    refine Calls.mono (hg.2 n w hle) (fun en w' he => ?_)
    rcases he with ⟨rfl,rfl⟩ | ⟨c,cs,T,rfl,hcs,rfl⟩
    · obtain ⟨st2,l2⟩:=st.nil (k:=k) (e:=.int .i64) hk (by decide)
      exact K _ _ _ _ _ st2 l2 (repHead rfl headNil)
    · obtain ⟨st2,l2⟩:=st.drew.array (k:=k) (e:=.int .i64) (l:=[]) (cs:=cs) (T:=T) (c:=c) hk (by decide) (Nat.zero_le _) (by rw [hcs]; show c=c * 1; omega) (fun i hi=>absurd hi (Nat.not_lt_zero i))
      refine K _ _ _ _ _ st2 ⟨l2.hA,l2.hρ,fun b hb => ?_⟩ (repHead rfl headArr)
      exact l2.hw b hb
  · split at hd
    · rename_i x hx; rw [hx,Nat.eq_of_beq_eq_true hd]
    · cases hd
def catA0:Cd:=.reg false [⟨some 2,.move (.c (.sl (.int .i64)) []),none,[],[]⟩]
def catA1:Cd:=.reg false [⟨some 3,.move (.c (.int .i64) (0:Int)),none,[],[]⟩]
def catA2:Cd:=.seq (.reg false [⟨some 9,.move (.t 0),none,[],[]⟩,⟨some 10,.len (.t 9),none,[],[]⟩,⟨some 11,.move (.c (.int .i64) (0:Int)),none,[],[]⟩])
  (.block 0 (.loop (.seq (.seq (.reg false [⟨some 12,.bin .lss (.t 11) (.t 10),none,[],[]⟩]) (.seq (.cond (.t 12) (.seq (.tidy [12] [] [] none) (.skip)) (.seq (.tidy [12] [] [] none) (.exit 0))) (.seq (.block 1 (.seq (.seq (.reg false [⟨some 13,.index (.sl (.sl (.int .i64))) (.t 9) (.t 11),none,[],[]⟩,⟨some 14,.load (.d (.sl (.int .i64))) (.t 13),none,[],[]⟩,⟨some 5,.move (.t 14),none,[],[]⟩]) (.tidy [13,14] [] [] none)) (.seq (.seq (.reg false [⟨some 15,.move (.t 3),none,[],[]⟩,⟨some 16,.move (.t 5),none,[],[]⟩,⟨some 17,.len (.t 16),none,[],[]⟩,⟨some 18,.bin .add (.t 15) (.t 17),none,[],[]⟩,⟨some 3,.move (.t 18),none,[],[]⟩]) (.tidy [15,16,17,18] [] [] none)) (.seq (.seq (.reg false [⟨some 19,.move (.t 3),none,[],[]⟩,⟨some 20,.bin .lss (.t 19) (.c (.int .i64) (0:Int)),none,[],[]⟩]) (.tidy [19] [] [] none)) (.cond (.t 20) (.seq (.tidy [20] [] [] none) (.seq (.reg false [⟨some 21,.fail,none,[],[]⟩,⟨none,.fail,none,[],[]⟩]) (.tidy [21] [] [] none))) (.seq (.tidy [20] [] [] none) (.skip))))))) (.seq (.reg false [⟨some 22,.bin .add (.t 11) (.c (.int .i64) (1:Int)),none,[],[]⟩,⟨some 11,.move (.t 22),none,[],[]⟩]) (.tidy [22] [] [] none))))) (.tidy [5] [] [] (some 0)))))
def catS:Cd:=.seq (.tidy [23,24] [] [] none) (.seq (.seq (.reg false [⟨some 25,.move (.t 0),none,[],[]⟩,⟨some 26,.len (.t 25),none,[],[]⟩,⟨some 27,.move (.c (.int .i64) (0:Int)),none,[],[]⟩])
  (.block 2 (.loop (.seq (.seq (.reg false [⟨some 28,.bin .lss (.t 27) (.t 26),none,[],[]⟩]) (.seq (.cond (.t 28) (.seq (.tidy [28] [] [] none) (.skip)) (.seq (.tidy [28] [] [] none) (.exit 2))) (.seq (.block 3 (.seq (.seq (.reg false [⟨some 29,.index (.sl (.sl (.int .i64))) (.t 25) (.t 27),none,[],[]⟩,⟨some 30,.load (.d (.sl (.int .i64))) (.t 29),none,[],[]⟩,⟨some 8,.move (.t 30),none,[],[]⟩]) (.tidy [29,30] [] [] none)) (.seq (.reg false [⟨some 31,.move (.t 6),none,[],[]⟩,⟨some 32,.move (.t 8),none,[],[]⟩,⟨some 33,.append 0 (.int .i64) (.t 31) (.t 32),none,[],[]⟩,⟨some 6,.move (.t 33),none,[],[]⟩]) (.tidy [31,32,33] [] [] none)))) (.seq (.reg false [⟨some 34,.bin .add (.t 27) (.c (.int .i64) (1:Int)),none,[],[]⟩,⟨some 27,.move (.t 34),none,[],[]⟩]) (.tidy [34] [] [] none))))) (.tidy [8] [(0,1)] [] (some 2))))))
  (.seq (.seq (.reg false [⟨some 35,.move (.t 6),none,[],[]⟩,⟨some 2,.move (.t 35),none,[],[]⟩]) (.tidy [35] [] [] none)) (.ret)))
def catOk (P:Program) (f gf:FuncId):Bool:=match P.funcs[f]? with
  | some fn => fn.name != "runtime.NumGoroutine" && chkRVs P [.tmp 2] fn.results.toList && (match fn.body with
    | some (.seq R0 (.seq R1 (.seq L1 (.seq (.region _ ops false) S))))=>chkCd P (1+(fn.ntmps - 1)) catA0 R0 && chkCd P (1+(fn.ntmps - 1)) catA1 R1 && chkCd P (1+(fn.ntmps - 1)) catA2 L1 && chkCd P (1+(fn.ntmps - 1)) catS S && Nat.blt 35 (1+(fn.ntmps - 1)) && (match ops.toList with
      | [o0,o1,o2]=>chkLn P (1+(fn.ntmps - 1)) ops ⟨some 23,.move (.t 3),none,[],[]⟩ o0 && chkGrow P gf 23 24 o1 && chkLn P (1+(fn.ntmps - 1)) ops ⟨some 6,.move (.t 24),none,[],[]⟩ o2
      | _=>false)
    | _=>false)
  | none=>false
abbrev catD (a b:List Int):den (.sl (.sl (.int .i64))):=[a,b]
def catN (a b:List Int):Int:=IntKind.wrap .i64 (IntKind.wrap .i64 (0+((List.length a:Nat):Int))+((List.length b:Nat):Int))
def catS1 (a b:List Int):Slots:=[(0,.dat (.sl (.sl (.int .i64))) (catD a b) []),(2,.dat (.sl (.int .i64)) [] []),(3,.dat (.int .i64) (catN a b) []),(9,.dat (.sl (.sl (.int .i64))) (catD a b) []),(10,.dat (.int .i64) (2:Int) []),(11,.dat (.int .i64) (2:Int) [])]
def catS0 (a b:List Int):Slots:=[(0,.dat (.sl (.sl (.int .i64))) (catD a b) []),(2,.dat (.sl (.int .i64)) [] []),(3,.dat (.int .i64) (0:Int) [])]
theorem catA_run (a b:List Int):run noCalls 4 catA2 (fun _ s h=>some (s,h)) (fun _ _ _=>none) (catS0 a b) [] =
    bif decide (IntKind.wrap .i64 (0+((List.length a:Nat):Int))<0) then none else bif decide (catN a b<0) then none else some (catS1 a b,[]):=by kernel_rfl
theorem catS_run (a b:List Int):run noCalls 4 catS (fun _ _ _=>none) (retK ⟨1,[.tmp 2],.skip⟩ [.d (.sl (.int .i64))]) (catS1 a b ++ [(23,.dat (.int .i64) (catN a b) []),(24,.dat (.sl (.int .i64)) [] [([],some 1)]),(6,.dat (.sl (.int .i64)) [] [([],some 1)])]) [.none,.arr (.int .i64) []] =
    (if 0+List.length a≤1048576 then if List.length (([]:List Int) ++ a)+List.length b≤1048576 then some (((([]:List Int) ++ a) ++ b,()),[(0,[])]) else none else none):=by kernel_rfl
theorem cat_calls (hm:P.follows .mixedOrders=true) {f gf:FuncId} (hc:catOk P f gf=true) (hg:GrowNil P gf) {la lb:List Int} (ha:List.length la≤524288) (hb:List.length lb≤524288) {w:World} {A:Nat→Prop} {vs:List Value} (hA:∀ b,A b→b<w.heap.size) (hgl:GlobOk A w)
    (hr:RepVs A (fun _=>none) w [.dat (.sl (.sl (.int .i64))) (catD la lb) []] vs):callable P f=true∧Go.Calls P f vs.toArray w (fun en w'=>∃ vals,en=.returned (bundleV vals)∧ResOk A w w' [.dat (.sl (.int .i64)) (la ++ lb) []] [(0,[])] vals):=by
  unfold catOk at hc
  cases hf:P.funcs[f]? with
  | none=>rw [hf] at hc; cases hc
  | some fn =>
    rw [hf] at hc
    simp only [Bool.and_eq_true] at hc
    obtain ⟨⟨c1,c2⟩,c3⟩:=hc
    split at c3
    case h_2=>cases c3
    rename_i R0 R1 L1 rid ops S hbd
    simp only [Bool.and_eq_true,Nat.blt_eq] at c3
    obtain ⟨⟨⟨⟨⟨d0,d1⟩,dL⟩,dS⟩,d4⟩,dO⟩:=c3
    split at dO
    case h_2=>cases dO
    rename_i o0 o1 o2 hops
    simp only [Bool.and_eq_true] at dO
    obtain ⟨⟨e0,e1⟩,e2⟩:=dO
    refine ⟨by unfold callable; rw [hf]; simp only [c1,hbd]; rfl,?_⟩
    have i0:ops[0]?=some o0:=by rw [← Array.getElem?_toList,hops]; rfl
    have i1:ops[1]?=some o1:=by rw [← Array.getElem?_toList,hops]; rfl
    have i2:ops[2]?=some o2:=by rw [← Array.getElem?_toList,hops]; rfl
    have hsz:ops.size=3:=by rw [← Array.length_toList,hops]; rfl
    refine calls_of_wp hf hbd ?_
    let fin:dShL [Sh.d (.sl (.int .i64))]×Fresh:=((la ++ lb,()),[(0,[])])
    let g:Fn:=⟨1,[.tmp 2],.skip⟩
    have hret:=retK_ok (P:=P) (N:=1+(fn.ntmps - 1)) (w:=w) (A:=A) (fn:=fn) (g:=g) (res:=[.d (.sl (.int .i64))]) (r:=fin) c2
    have h0:=entry_ok (n:=1) (k:=fn.ntmps) hA hgl hr rfl
    have hn1:IntKind.wrap .i64 (0+((List.length la:Nat):Int))=((List.length la:Nat):Int):=by
      rw [Int.zero_add]
      show (if (true && decide (((List.length la:Nat):Int) % (2 ^ 64:Int) ≥ (2 ^ 63:Int)))=true then ((List.length la:Nat):Int) % (2 ^ 64:Int) - (2 ^ 64:Int) else ((List.length la:Nat):Int) % (2 ^ 64:Int))=_
      rw [decide_eq_false (by omega)]; simp only [Bool.and_false,Bool.false_eq_true,if_false]; omega
    have hn2:catN la lb=((List.length la+List.length lb:Nat):Int):=by
      unfold catN
      rw [hn1]
      show (if (true && decide ((((List.length la:Nat):Int)+((List.length lb:Nat):Int)) % (2 ^ 64:Int) ≥ (2 ^ 63:Int)))=true then (((List.length la:Nat):Int)+((List.length lb:Nat):Int)) % (2 ^ 64:Int) - (2 ^ 64:Int) else (((List.length la:Nat):Int)+((List.length lb:Nat):Int)) % (2 ^ 64:Int))=_
      rw [decide_eq_false (by omega)]; simp only [Bool.and_false,Bool.false_eq_true,if_false]; omega
    have hA1:run noCalls 4 catA2 (fun _ s h=>some (s,h)) (fun _ _ _=>none) (catS0 la lb) []=some (catS1 la lb,[]):=by
      rw [catA_run,hn1,hn2,decide_eq_false (by omega),decide_eq_false (by omega)]; rfl
    refine wp_seq (code_ok (R:=Slots×Heap) (r:=([(0,.dat (.sl (.sl (.int .i64))) (catD la lb) []),(2,.dat (.sl (.int .i64)) [] [])],[])) (lp:=0) noCalls_ok hm catA0 R0 d0 (Kn:=fun _ s h=>some (s,h)) (K:=fun _ _ _=>none) (fun s h a w' hk hs => ?_) (fun _ _ s h a w' hk _=>by cases hk) h0 rfl)
    simp only [Option.some.injEq,Prod.mk.injEq] at hk
    obtain ⟨rfl,rfl⟩:=hk
    refine wp_seq (code_ok (R:=Slots×Heap) (r:=(catS0 _ _,[])) (lp:=0) noCalls_ok hm catA1 R1 d1 (Kn:=fun _ s h=>some (s,h)) (K:=fun _ _ _=>none) (fun s h a1 w1 hk hs => ?_) (fun _ _ s h a w' hk _=>by cases hk) hs rfl)
    simp only [Option.some.injEq,Prod.mk.injEq] at hk
    obtain ⟨rfl,rfl⟩:=hk
    refine wp_seq (code_ok (R:=Slots×Heap) (r:=(catS1 _ _,[])) (lp:=4) noCalls_ok hm catA2 L1 dL (Kn:=fun _ s h=>some (s,h)) (K:=fun _ _ _=>none) (fun s h a2 w2 hk hs => ?_) (fun _ _ s h a w' hk _=>by cases hk) hs hA1)
    simp only [Option.some.injEq,Prod.mk.injEq] at hk
    obtain ⟨rfl,rfl⟩:=hk
    refine wp_seq (wp_region ?_)
    rw [hsz,List.range_eq_range']
    show wpOps P ops _ [0,1,2] a2 w2
    rw [wpOps_cons]
    refine step_is (draw:=false) i0 hs noCalls_ok e0 (v:=.dat (.int .i64) (catN _ _) []) (e:=[]) ⟨(fun h=>by cases h),rfl⟩ (fun a3 w3 hs3 => ?_)
    rw [wpOps_cons]
    obtain ⟨A3,ρ3,own3,st3,sl3,sz3,df3⟩:=hs3
    obtain ⟨og,ogd,od⟩:=good_grow st3 sl3 hg e1 (k:=1) rfl (by rw [hn2]; rfl) (by omega)
    unfold wpOp
    simp only [i1,Region.wanted,ogd,if_true]
    refine .inl (og _ _ (fun v' w4 A4 ρ4 own4 st4 l4 hv4 => ?_))
    rw [od,wpOps_cons]
    have hh:∀ i,appE (appE (getO []) []) [(1,Obj.arr (.int .i64) [])] i=getO [.none,.arr (.int .i64) []] i:=fun i=>by
      rcases i with _ | _ | i <;> rfl
    have hs4:Is (1+(fn.ntmps - 1)) w.heap.size ⟨w,A⟩ (getS (catS1 la lb ++ [(23,.dat (.int .i64) (catN la lb) []),(24,.dat (.sl (.int .i64)) [] [([],some 1)])])) (getO [.none,.arr (.int .i64) []]) (a3.put (some 24) v') w4:=by
      refine ⟨A4,ρ4,own4,?_,?_,by rw [size_put]; exact sz3,by rw [defers_put]; exact df3⟩
      · rw [show getO [Obj.none,.arr (.int .i64) []]=_ from (funext hh).symm]; exact st4
      · have:=SlotsOk.put (d:=some 24) (v:=.dat (.sl (.int .i64)) [] [([],some 1)]) (v':=v') sl3 l4 (fun i hi=>by cases hi; rw [sz3]; omega) hv4
        intro i
        have h1:=this i
        have he:getS (catS1 la lb ++ [(23,.dat (.int .i64) (catN la lb) []),(24,.dat (.sl (.int .i64)) [] [([],some 1)])]) i=putF (putF (getS (catS1 la lb)) (some 23) (.dat (.int .i64) (catN la lb) [])) (some 24) (.dat (.sl (.int .i64)) [] [([],some 1)]) i:=by
          rw [show (catS1 la lb ++ [(23,.dat (.int .i64) (catN la lb) []),(24,.dat (.sl (.int .i64)) [] [([],some 1)])]:Slots)=putS (putS (catS1 la lb) 23 (.dat (.int .i64) (catN la lb) [])) 24 (.dat (.sl (.int .i64)) [] [([],some 1)]) from rfl,getS_putS,getS_putS]
          unfold putF
          simp only [Option.some.injEq]
        rw [he]; exact h1
    refine step_is (draw:=false) i2 hs4 noCalls_ok e2 (v:=.dat (.sl (.int .i64)) [] [([],some 1)]) (e:=[]) ⟨(fun h=>by cases h),rfl⟩ (fun a5 w5 hs5 => ?_)
    simp only [wpOps]
    show Code.wp P S _ a5 w5
    have hs6:Is (1+(fn.ntmps - 1)) w.heap.size ⟨w,A⟩ (getS (catS1 la lb ++ [(23,.dat (.int .i64) (catN la lb) []),(24,.dat (.sl (.int .i64)) [] [([],some 1)]),(6,.dat (.sl (.int .i64)) [] [([],some 1)])])) (getO [.none,.arr (.int .i64) []]) a5 w5:=by
      obtain ⟨A5,ρ5,own5,st5,sl5,sz5,df5⟩:=hs5
      refine ⟨A5,ρ5,own5,st5,fun i => ?_,sz5,df5⟩
      have h1:=sl5 i
      have he:getS (catS1 la lb ++ [(23,.dat (.int .i64) (catN la lb) []),(24,.dat (.sl (.int .i64)) [] [([],some 1)]),(6,.dat (.sl (.int .i64)) [] [([],some 1)])]) i=putF (getS (catS1 la lb ++ [(23,.dat (.int .i64) (catN la lb) []),(24,.dat (.sl (.int .i64)) [] [([],some 1)])])) (some 6) (.dat (.sl (.int .i64)) [] [([],some 1)]) i:=by
        rw [show (catS1 la lb ++ [(23,.dat (.int .i64) (catN la lb) []),(24,.dat (.sl (.int .i64)) [] [([],some 1)]),(6,.dat (.sl (.int .i64)) [] [([],some 1)])]:Slots)=putS (catS1 la lb ++ [(23,.dat (.int .i64) (catN la lb) []),(24,.dat (.sl (.int .i64)) [] [([],some 1)])]) 6 (.dat (.sl (.int .i64)) [] [([],some 1)]) from rfl,getS_putS]
        unfold putF
        simp only [Option.some.injEq]
      rw [he]; exact h1
    refine code_ok (R:=dShL [Sh.d (.sl (.int .i64))]×Fresh) (r:=fin) (lp:=4) noCalls_ok hm catS S dS (Kn:=fun _ _ _=>none) (K:=retK g [.d (.sl (.int .i64))]) (fun s h a w' hk _=>by cases hk) (fun ex hex => ?_) hs6 ?_
    · cases ex with
      | norm=>exact absurd rfl hex
      | exit i=>exact retK_exits i
      | ret=>exact hret .ret (by simp)
    · rw [catS_run,if_pos (by omega),if_pos (by rw [List.nil_append]; omega),List.nil_append]
end
end Go.Proofs.YtjobjooccgledaaDoor.Ghost
