/- Code, functions and calls do what the ghost's do. Conditions: none. -/
import Derived.Test.YtjobjooccgledaaGreatDoorA3
import Derived.LoopN
import Derived.Laws.Sem
import Derived.Deep.Slices
import Derived.OpenShut
import Derived.WideShapes
import Derived.KernelRfl
set_option linter.unusedVariables false
set_option linter.unusedSimpArgs false
set_option linter.unusedSectionVars false
set_option linter.unnecessarySimpa false
namespace Go.Proofs.YtjobjooccgledaaGreatDoor.Ghost
open Go
section
variable {R:Type}
theorem Ti {τ:Ty} {x:den τ} {ov:Ov} {p:Z8} {K:SV→Option R}:Et τ x ov p K=(Et τ x ov p some).bind K:=by
  unfold Et; split <;> rfl
theorem Bu {h:Nat→Obj} {a:SV} {K:SV→Option R}:I9 h a K=(I9 h a some).bind K:=by
  unfold I9
  split
  · rfl
  · rfl
  · rfl
  · split
    · rfl
    · split <;> rfl
  · split
    · exact Ti
    · exact Ti
    · split <;> rfl
    · split <;> rfl
    · rfl
  · split
    · exact Ti
    · exact Ti
    · rfl
  · rfl
theorem Bv {t:LT} {h:Nat→Obj} {a:SV} {K:SV→Option R}:Fa t h a K=(Fa t h a some).bind K:=by
  unfold Fa
  refine Bu.trans (Eq.symm ((congrArg (fun o=>Option.bind o K) Bu).trans ?_))
  cases I9 h a some with
  | none=>rfl
  | some v=>simp only [Option.bind_some]; split <;> rfl
theorem Dt {h:Nat→Obj} {a v:SV} {K:Eff→Option R}:R9 h a v K=(R9 h a v some).bind K:=by
  unfold R9
  repeat' split
  all_goals first | rfl | (simp only [Option.bind_some,Option.bind_none]; done) | simp_all
theorem Pn {S:Type} {n:Int} {m:Nat} {f:Nat→S} {K:S→Option R}:inB n m (fun j=>K (f j))=(inB n m fun j=>some (f j)).bind K:=by
  unfold inB; split <;> rfl
theorem AEp {τ:Ty} {x:den τ} {p:Z8} {σ:Ty} {v:SV} {K:SV→Option R}:Yb.fld τ x p σ (K v)=(Yb.fld τ x p σ (some v)).bind K:=by
  unfold Yb.fld
  repeat' split
  all_goals rfl
theorem AJn {u:SV} {p:Z8} {sizes:List Nat} {j:Nat} {v:SV} {K:SV→Option R}:Yb.fldV u p sizes j (K v)=(Yb.fldV u p sizes j (some v)).bind K:=by
  unfold Yb.fldV
  split
  · cases Yb.natsEq (Yb.sizesV _) sizes && Nat.blt j sizes.length <;> rfl
  · rfl
theorem Iu {h:Nat→Obj} {t:FT} {j:Nat} {a:SV} {K:SV→Option R}:Yb h t j a K=(Yb h t j a some).bind K:=by
  unfold Yb
  cases t with
  | d σ =>
    cases σ with
    | st fs =>
      simp only []
      cases Nat.blt j fs.length with
      | false=>rfl
      | true =>
        simp only [cond_true]
        cases a with
        | ptr g p=>simp only []; split <;> first | exact AEp | rfl
        | elp g i p=>simp only []; split <;> first | exact AEp | rfl
        | ref τ x=>simp only []; split <;> rfl
        | _=>rfl
    | _=>rfl
  | v sizes =>
    simp only []
    split
    · split <;> rfl
    · split <;> first | exact AJn | rfl
    · rfl
theorem Ck {τ:Ty} {x:den τ} {p:Z8} {M:Nat} {σ:Ty} {n:Int} {f:Nat→SV} {K:SV→Option R}:Uh.arrAt τ x p M σ n (fun j=>K (f j))=(Uh.arrAt τ x p M σ n fun j=>some (f j)).bind K:=by
  unfold Uh.arrAt
  repeat' split
  all_goals first | exact Pn | rfl
theorem De {t:IT} {h:Nat→Obj} {x i:SV} {K:SV→Option R}:Uh t h x i K=(Uh t h x i some).bind K:=by
  unfold Uh
  split
  · cases t with
    | sl σ =>
      simp only []
      split
      · split <;> first | exact Pn | rfl
      · split
        · split <;> first | exact Pn | rfl
        · split <;> first | exact Pn | rfl
        · rfl
      · rfl
    | arr M σ =>
      simp only []
      split
      · split <;> first | exact Pn | rfl
      · split
        · exact Ck
        · exact Ck
        · rfl
      · rfl
    | slv sz =>
      simp only []
      repeat' split
      all_goals rfl
  · rfl
theorem AA9 {h:Nat→Obj} {x:SV} {K:SV→Option R}:ACz h x K=(ACz h x some).bind K:=by
  unfold ACz
  repeat' split
  all_goals rfl
theorem AD0 {op:BinOp} {k:IntKind} {x y:Int} {K:SV→Option R}:Cl op k x y K=(Cl op k x y some).bind K:=by
  unfold Cl
  cases op <;> simp only [] <;> first | rfl | (split <;> rfl)
theorem AAk {op:BinOp} {a b:SV} {K:SV→Option R}:AI5 op a b K=(AI5 op a b some).bind K:=by
  unfold AI5
  repeat' split
  all_goals first | exact AD0 | rfl
theorem AAs {τ:Ty} {neg:Bool} {a b:SV} {K:SV→Option R}:AMw τ neg a b K=(AMw τ neg a b some).bind K:=by
  unfold AMw
  repeat' split
  all_goals rfl
theorem Ng {τ:Ty} {s:Nat→SV} {K:SV→Option R}:(parts:List (Nat×Opd))→{x:den τ}→{ov:Ov}→Tm τ s x ov parts K=(Tm τ s x ov parts some).bind K
  | [],_,_=>rfl
  | (j,o) :: r,x,ov=>by
    simp only [Tm]
    repeat' split
    all_goals first | exact Ng r | rfl
theorem Cn {h:Nat→Obj} {ids:List Nat} {res:List Sh} {x:Xc res} {keep:Vm} {K:SV→Eff→Option R}:M9 h ids res x keep K=(M9 h ids res x keep fun v e=>some (v,e)).bind fun p=>K p.1 p.2:=by
  unfold M9
  have key:∀ fz:Option Eff,(match fz with | some es=>(match Tt (V5 res x) keep with | some (vs,es')=>K (Ni vs) (es ++ es') | none=>none) | none=>none) =
      Option.bind (match fz with | some es=>(match Tt (V5 res x) keep with | some (vs,es')=>some (Ni vs,es ++ es') | none=>none) | none=>none) fun p=>K p.1 p.2:=fun fz=>by
    cases fz with
    | none=>rfl
    | some es=>simp only []; split <;> rfl
  exact key _
theorem AGj {cf:Calls} {h:Nat→Obj} {f:SV} {args:List SV} {res:List Sh} {keep:Vm} {opt:Bool} {K:SV→Eff→Option R} :
    Pg cf h f args res keep opt K=(Pg cf h f args res keep opt fun v e=>some (v,e)).bind fun p=>K p.1 p.2:=by
  unfold Pg
  split
  · split
    · rename_i as ids hl
      cases cf _ as res with
      | none=>rfl
      | some x =>
        simp only [Option.bind_some]
        cases Zq x.2 keep with
        | true =>
          simp only [cond_true]
          cases Hh h keep with
          | true=>exact Cn
          | false=>rfl
        | false =>
          simp only [cond_false]
          cases opt with
          | true=>exact Cn
          | false=>rfl
    · rfl
  · rfl
  · rfl
def prE (v:SV) (e:Eff):Option (SV×Eff):=some (v,e)
theorem K5 {α β:Type} {o:Option α} {f:α→β} {K:β→Option R}:(o.bind fun x=>some (f x)).bind K=o.bind fun x=>K (f x):=by cases o <;> rfl
theorem L0 {n:Int} {K:SV→Bool→Option R}:(ks:List Int)→(us:List SV)→Wv n ks us K=(Wv n ks us fun v b=>some (v,b)).bind fun p=>K p.1 p.2
  | [],_=>by unfold Wv; rfl
  | _ :: _,[]=>by unfold Wv; rfl
  | k :: ks,u :: us=>by
    simp only [Wv]
    cases decide (n=k) with
    | true=>rfl
    | false=>exact L0 ks us
theorem AE1 {cf:Calls} {s:Nat→SV} {h:Nat→Obj} {g:GOp} {K:SV→Eff→Option R}:gop cf s h g K=(gop cf s h g prE).bind fun p=>K p.1 p.2:=by
  cases g with
  | load t a=>simp only [gop,prE]; rw [Bv,Bv (K:=fun v=>some (v,_)),K5]
  | store t a v =>
    simp only [gop,prE]
    split
    · rw [Dt,Dt (K:=fun e=>some (_,e)),K5]
    · rfl
  | bin op x y=>simp only [gop,prE]; rw [AAk,AAk (K:=fun v=>some (v,_)),K5]
  | eqs τ neg x y=>simp only [gop,prE]; rw [AAs,AAs (K:=fun v=>some (v,_)),K5]
  | fieldAddr t j a=>simp only [gop,prE]; rw [Iu,Iu (K:=fun v=>some (v,_)),K5]
  | field τ j a =>
    simp only [gop,prE]
    repeat' split
    all_goals first | (rw [Ti,Ti (K:=fun v=>some (v,_)),K5]; done) | rfl
  | index t x i=>simp only [gop,prE]; rw [De,De (K:=fun v=>some (v,_)),K5]
  | len x=>simp only [gop,prE]; rw [AA9,AA9 (K:=fun v=>some (v,_)),K5]
  | build τ parts nils =>
    simp only [gop,prE]
    split
    · rw [Ng,Ng (K:=fun v=>some (v,_)),K5]
    · rfl
  | call f args res keep opt=>exact AGj
  | pick c a b =>
    simp only [gop]
    repeat' split
    all_goals first
      | rfl
      | (rename_i t _ _ _ _ _ _ _; cases t <;> rfl)
      | (simp only [cond_eq_ite]; split <;> rfl)
  | lookv m i ok =>
    simp only [gop,prE]
    split
    · rename_i ks us n _ _
      rw [L0 ks us (K:=fun v b=>K (ABa ok v b) []),L0 ks us (K:=fun v b=>some (ABa ok v b,[]))]
      cases Wv n ks us fun v b=>some (v,b) with
      | none=>rfl
      | some p=>rfl
    · rfl
  | slicearr n e x =>
    simp only [gop,AGw]
    repeat' split
    all_goals rfl
  | _ =>
    simp only [gop]
    repeat' split
    all_goals rfl
theorem ACv {cf:Calls} {s:Nat→SV} {h:Nat→Obj} {g:GOp} {K:SV→Eff→Option R} {r:R} (hg:gop cf s h g K=some r):∃ v e,K v e=some r∧gop cf s h g prE=some (v,e):=by
  rw [AE1] at hg
  cases hp:gop cf s h g prE with
  | none=>rw [hp] at hg; cases hg
  | some p=>rw [hp] at hg; exact ⟨p.1,p.2,hg,rfl⟩
def Lh:GOp→List Opd
  | .move x=>[x]
  | .mknil _ _=>[]
  | .pick c a b=>[c,a,b]
  | .newbox _ _ _=>[]
  | .newboxv _ _=>[]
  | .box _ x=>[x]
  | .load _ a=>[a]
  | .store _ a v=>[a,v]
  | .bin _ x y=>[x,y]
  | .eqs _ _ x y=>[x,y]
  | .not x=>[x]
  | .neg x=>[x]
  | .conv _ x=>[x]
  | .fieldAddr _ _ a=>[a]
  | .field _ _ a=>[a]
  | .index _ x i=>[x,i]
  | .len x=>[x]
  | .lens x=>[x]
  | .slicearr _ _ x=>[x]
  | .max xs=>xs
  | .min xs=>xs
  | .build _ parts _=>parts.map (·.2)
  | .buildv _ parts=>parts
  | .slice _ _ parts=>parts
  | .slicev _ parts=>parts
  | .make _ _ n=>[n]
  | .append _ _ x y=>[x,y]
  | .extract x _=>[x]
  | .func _ caps=>caps
  | .mkmap _ _ _=>[]
  | .lookup _ _ m i=>[m,i]
  | .lookv m i _=>[m,i]
  | .slx _ x lo hi=>x :: (lo.toList ++ hi.toList)
  | .mapset _ _ m i v=>[m,i,v]
  | .mapent _ _ m i=>[m,i]
  | .mapst _ _ m e v=>[m,e,v]
  | .call f args _ _ _=>f :: args
  | .fail=>[]
section
variable {s s':Nat→SV}
theorem Cc {xs:List Opd} (hx:∀ x,x∈xs→evO s x=evO s' x):xs.map (evO s)=xs.map (evO s'):=List.map_congr_left hx
theorem Ny:(xs:List Opd)→(∀ x,x∈xs→evO s x=evO s' x)→Wt s xs=Wt s' xs
  | [],_=>rfl
  | [o],hx=>by simp only [Wt,hx o (by simp)]
  | o :: o' :: r,hx=>by
    simp only [Wt,hx o (by simp)]
    rw [show Wt s (o' :: r)=Wt s' (o' :: r) from Ny (o' :: r) (fun x h=>hx x (by simp at h ⊢; exact .inr h))]
theorem Fd {e:Ty}:(xs:List Opd)→(∀ x,x∈xs→evO s x=evO s' x)→Wq e s xs=Wq e s' xs
  | [],_=>rfl
  | o :: r,hx=>by
    simp only [Wq,hx o (by simp),Fd r (fun x h=>hx x (by simp [h]))]
theorem Id {τ:Ty} {K:SV→Option R}:(parts:List (Nat×Opd))→{x:den τ}→{ov:Ov}→(∀ x,x∈parts.map (·.2)→evO s x=evO s' x)→Tm τ s x ov parts K=Tm τ s' x ov parts K
  | [],_,_,_=>rfl
  | (j,o) :: r,x,ov,hx=>by
    simp only [Tm,hx o (by simp)]
    repeat' split
    all_goals first | exact Id r (fun x h=>hx x (by simp at h ⊢; exact .inr h)) | rfl
theorem AJ2 {cf:Calls} {h:Nat→Obj} {g:GOp} {K:SV→Eff→Option R} (hx:∀ x,x∈Lh g→evO s x=evO s' x):gop cf s h g K=gop cf s' h g K:=by
  cases g with
  | max xs=>simp only [gop,Ny xs hx]
  | min xs=>simp only [gop,Ny xs hx]
  | build τ parts nils=>simp only [gop,Id parts hx]
  | buildv sizes parts=>simp only [gop,Cc (xs:=parts) hx]
  | slice k e parts=>simp only [gop,Fd parts hx]
  | slicev n parts=>simp only [gop,Cc (xs:=parts) hx]
  | func f caps=>simp only [gop,Cc (xs:=caps) hx]
  | call f args res keep opt=>simp only [gop,hx f (by simp [Lh]),Cc (xs:=args) (fun x h=>hx x (by simp [Lh,h]))]
  | slx e x lo hi =>
    have hb:∀ (y:Option Opd) (d:Int),(∀ z,y=some z→evO s z=evO s' z)→O9 s y d=O9 s' y d:=fun y d hy=>by
      cases y with
      | none=>rfl
      | some z=>simp only [O9,hy z rfl]
    have h1:=hb lo 0 (fun z hz=>hx z (by simp [Lh,hz]))
    have h2:∀ d,O9 s hi d=O9 s' hi d:=fun d=>hb hi d (fun z hz=>hx z (by simp [Lh,hz]))
    simp only [gop,hx x (by simp [Lh]),h1,h2]
  | _=>simp_all [Lh,gop]
end
end
end Go.Proofs.YtjobjooccgledaaGreatDoor.Ghost
namespace Go.Proofs.YtjobjooccgledaaGreatDoor.Ghost
open Go
def T7 (s:Nat→SV) (d:Option Nat) (v:SV):Nat→SV:=fun i=>if d=some i then v else s i
theorem Pi (s:Xk) (j:Nat) (x:SV) (i:Nat):Xu (M5 s j x) i=if j=i then x else Xu s i:=by
  induction s with
  | nil =>
    simp only [M5,Xu]
    cases hb:Nat.beq j i with
    | true=>rw [if_pos (Nat.eq_of_beq_eq_true hb)]
    | false=>rw [if_neg (Nat.ne_of_beq_eq_false hb)]
  | cons p r ih =>
    obtain ⟨k,v⟩:=p
    simp only [M5]
    cases hk:Nat.beq k j with
    | true =>
      have hkj:=Nat.eq_of_beq_eq_true hk
      subst hkj
      simp only [Xu]
      cases hb:Nat.beq k i with
      | true=>rw [if_pos (Nat.eq_of_beq_eq_true hb)]
      | false=>rw [if_neg (Nat.ne_of_beq_eq_false hb)]
    | false =>
      simp only [Xu]
      cases hb:Nat.beq k i with
      | true =>
        have e1:=Nat.eq_of_beq_eq_true hb
        have e2:=Nat.ne_of_beq_eq_false hk
        rw [if_neg (fun e=>e2 (by rw [e1,e]))]
      | false=>exact ih
theorem Tc (s:Xk) (d:Option Nat) (v:SV):Xu (El s d v)=T7 (Xu s) d v:=by
  funext i
  cases d with
  | none=>simp [El,T7]
  | some d=>simp only [El,T7,Pi,Option.some.injEq]
theorem Ug {s:Xk} {j:Nat} {x:SV} (h:Xu s j=x):Xu (M5 s j x)=Xu s:=by
  funext i
  rw [Pi]
  split
  · rename_i e; rw [← e,h]
  · rfl
def hvw (draw:Bool) (l:Ln) (h:Nat→Obj):Nat→Obj:=match draw with | true=>Bw (l.rd ++ l.wr) h | false=>h
def Dv (cf:Calls) (draw:Bool) (l:Ln) (s:Nat→SV) (h:Nat→Obj) (v:SV) (e:Eff):Prop:=(draw=true→AAq l.wr e=true)∧gop cf s (hvw draw l h) l.op prE=some (v,e)
def Va (cf:Calls) (draw:Bool) (l:Ln) (s:Nat→SV) (h:Nat→Obj) (v:SV) (e:Eff):Prop:=match l.g with
  | none=>Dv cf draw l s h v e
  | some (j,want)=>(∃ b,s j=.dat .bool b []∧((b=want∧Dv cf draw l s h v e)∨(b≠want∧v=.und∧e=[])))∨(s j=.und∧v=.und∧e=[])
def Ran (cf:Calls) (draw:Bool):List Ln→(Nat→SV)→(Nat→Obj)→List (SV×Eff)→Prop
  | [],_,_,q=>q=[]
  | l :: r,s,h,q=>∃ v e q',q=(v,e) :: q'∧Va cf draw l s h v e∧Ran cf draw r (T7 s l.d v) (X7 h e) q'
def C7:List Ln→List (SV×Eff)→(Nat→SV)→Nat→SV
  | l :: r,(v,_) :: q,s=>C7 r q (T7 s l.d v)
  | _,_,s=>s
def C6:List (SV×Eff)→(Nat→Obj)→Nat→Obj
  | (_,e) :: q,h=>C6 q (X7 h e)
  | [],h=>h
section
variable {R:Type} {cf:Calls}
theorem AKb {draw:Bool} {l:Ln} {s:Xk} {h:Yj} {K:Xk→Yj→Option R} {r:R} (hr:B4 cf draw l s h K=some r) :
    ∃ v e,Dv cf draw l (Xu s) (Xn h) v e∧K (El s l.d v) (P2 h e)=some r:=by
  unfold B4 at hr
  cases draw with
  | false =>
    obtain ⟨v,e,h1,h2⟩:=ACv hr
    exact ⟨v,e,⟨(fun hf=>by cases hf),h2⟩,h1⟩
  | true =>
    obtain ⟨v,e,h1,h2⟩:=ACv hr
    cases hw:AAq l.wr e with
    | false=>rw [hw] at h1; cases h1
    | true=>rw [hw] at h1; exact ⟨v,e,⟨fun _=>hw,h2⟩,h1⟩
theorem Ox {draw:Bool} {K:Xk→Yj→Option R} {r:R}:(ls:List Ln)→{s:Xk}→{h:Yj}→Yz cf draw ls s h K=some r →
    ∃ q s' h',Ran cf draw ls (Xu s) (Xn h) q∧K s' h'=some r∧Xu s'=C7 ls q (Xu s)∧Xn h'=C6 q (Xn h)
  | [],s,h,hr=>⟨[],s,h,rfl,hr,rfl,rfl⟩
  | l :: ls,s,h,hr=>by
    have next:∀ (v:SV) (e:Eff) (s1:Xk) (h1:Yj),Xu s1=T7 (Xu s) l.d v→Xn h1=X7 (Xn h) e→Va cf draw l (Xu s) (Xn h) v e→Yz cf draw ls s1 h1 K=some r →
        ∃ q s' h',Ran cf draw (l :: ls) (Xu s) (Xn h) q∧K s' h'=some r∧Xu s'=C7 (l :: ls) q (Xu s)∧Xn h'=C6 q (Xn h):=fun v e s1 h1 e1 e2 h3 h4=>by
      obtain ⟨q,s',h',q1,q2,q3,q4⟩:=Ox ls h4
      refine ⟨(v,e) :: q,s',h',⟨v,e,q,rfl,h3,by rw [← e1,← e2]; exact q1⟩,q2,?_,?_⟩
      · rw [q3,e1]; rfl
      · rw [q4,e2]; rfl
    have skip:∀ (s1:Xk),Xu s1=Xu s→Va cf draw l (Xu s) (Xn h) .und []→Yz cf draw ls (El s1 l.d .und) h K=some r →
        ∃ q s' h',Ran cf draw (l :: ls) (Xu s) (Xn h) q∧K s' h'=some r∧Xu s'=C7 (l :: ls) q (Xu s)∧Xn h'=C6 q (Xn h):=fun s1 e1 h3 h4 =>
      next .und [] _ h (by rw [Tc,e1]) rfl h3 h4
    have exec:∀ (s1:Xk),Xu s1=Xu s→(∀ v e,Dv cf draw l (Xu s) (Xn h) v e→Va cf draw l (Xu s) (Xn h) v e)→B4 cf draw l s1 h (fun s h=>Yz cf draw ls s h K)=some r →
        ∃ q s' h',Ran cf draw (l :: ls) (Xu s) (Xn h) q∧K s' h'=some r∧Xu s'=C7 (l :: ls) q (Xu s)∧Xn h'=C6 q (Xn h):=fun s1 e1 h3 h4=>by
      obtain ⟨v,e,k1,k2⟩:=AKb h4
      rw [e1] at k1
      exact next v e _ _ (by rw [Tc,e1]) (Gz h e) (h3 v e k1) k2
    unfold Yz at hr
    cases hg:l.g with
    | none =>
      simp only [hg] at hr
      exact exec s rfl (fun v e k=>by unfold Va; rw [hg]; exact k) hr
    | some p =>
      obtain ⟨j,want⟩:=p
      cases want with
      | true =>
        simp only [hg] at hr
        split at hr
        · rename_i b hb
          cases b with
          | true =>
            simp only [cond_true] at hr
            exact exec _ (Ug hb) (fun v e k=>by unfold Va; rw [hg]; exact .inl ⟨true,hb,.inl ⟨rfl,k⟩⟩) hr
          | false =>
            simp only [cond_false] at hr
            exact skip _ (Ug hb) (by unfold Va; rw [hg]; exact .inl ⟨false,hb,.inr ⟨by simp,rfl,rfl⟩⟩) hr
        · rename_i hb
          exact skip s rfl (by unfold Va; rw [hg]; exact .inr ⟨hb,rfl,rfl⟩) hr
        · cases hr
      | false =>
        simp only [hg] at hr
        split at hr
        · rename_i b hb
          cases b with
          | true =>
            simp only [cond_true] at hr
            exact skip _ (Ug hb) (by unfold Va; rw [hg]; exact .inl ⟨true,hb,.inr ⟨by simp,rfl,rfl⟩⟩) hr
          | false =>
            simp only [cond_false] at hr
            exact exec _ (Ug hb) (fun v e k=>by unfold Va; rw [hg]; exact .inl ⟨false,hb,.inl ⟨rfl,k⟩⟩) hr
        · rename_i hb
          exact skip s rfl (by unfold Va; rw [hg]; exact .inr ⟨hb,rfl,rfl⟩) hr
        · cases hr
end
def ACd (P:Program) (o:Oper):GOp→Bool
  | .call f args _ _ _=>Ig o f args
  | g=>Lr P o g
theorem AGn {P:Program} {o:Oper} {g:GOp} (h:ACd P o g=true):(∃ f args res keep opt,g=.call f args res keep opt∧Ig o f args=true)∨Lr P o g=true:=by
  cases g with
  | call f args res keep opt=>exact .inl ⟨f,args,res,keep,opt,rfl,h⟩
  | _=>exact .inr h
def AMu (N:Nat):Option Nat→Option Tmp→Bool
  | none,none=>true
  | some d,some d'=>Nat.beq d d' && Nat.blt d N
  | _,_=>false
def ACw (ops:Array Oper):Option (Nat×Bool)→Option (Nat×Bool)→Bool
  | none,none=>true
  | some (j,w),some (g,w')=>(w == w') && (match ops[g]? with | some o=>(match o.dst with | some d=>Nat.beq d j | none=>false) | none=>false)
  | _,_=>false
def Kw (P:Program) (N:Nat) (ops:Array Oper) (l:Ln) (o:Oper):Bool:=ACd P o l.op && AMu N l.d o.dst && ACw ops l.g o.guard
theorem Oc {N:Nat} {d d':Option Nat} (h:AMu N d d'=true):d=d'∧∀ i,d=some i→i<N:=by
  cases d with
  | none=>cases d' with | none=>exact ⟨rfl,fun i hi=>by cases hi⟩ | some _=>cases h
  | some d =>
    cases d' with
    | none=>cases h
    | some d' =>
      simp only [AMu,Bool.and_eq_true] at h
      have h1:=Nat.eq_of_beq_eq_true h.1
      subst h1
      refine ⟨rfl,fun i hi => ?_⟩
      cases hi
      have:=h.2
      rw [Nat.blt_eq] at this
      exact this
section
variable {P:Program} {o:Oper} {a:Act} {w:World} {B N:Nat} {w0:Y6} {A:Nat→Prop} {ρ:Xf} {own:Nat→Option Nat} {h:Nat→Obj} {s:Nat→SV} {ops:Array Oper} {Q:Exit→Act→World→Prop}
theorem AA4 (st:St B w0 A ρ own w h) (hs:Xh A ρ w s a) {cf:Calls} (hcf:Vw P cf) {g:GOp} (hc:ACd P o g=true) {v:SV} {e:Eff} (hg:gop cf s h g prE=some (v,e)) :
    Zw P o a w B w0 A ρ v (X7 h e):=by
  have key:(∃ v1 e1,prE v1 e1=some (v,e)∧Zw P o a w B w0 A ρ v1 (X7 h e1))→Zw P o a w B w0 A ρ v (X7 h e):=fun ⟨v1,e1,h1,h2⟩=>by
    simp only [prE,Option.some.injEq,Prod.mk.injEq] at h1
    obtain ⟨rfl,rfl⟩:=h1
    exact h2
  apply key
  rcases AGn hc with ⟨f,args,res,keep,opt,rfl,hc⟩ | hc
  · exact AJt st hs hcf hc hg
  · exact ANd st hs hc hg
theorem AAt {j:Nat} {b:Bool} (h:a.eval (.tmp j)=.bool b):a.tmps[j]?=some (.bool b):=by
  unfold Act.eval at h
  simp only [] at h
  rw [Array.getD_eq_getD_getElem?] at h
  cases ht:a.tmps[j]? with
  | none=>rw [ht] at h; simp [undef] at h
  | some v=>rw [ht] at h; simp at h; rw [h]
theorem AEj {j:Nat} (h:a.eval (.tmp j)=undef):a.tmps[j]?=none∨a.tmps[j]?=some undef:=by
  unfold Act.eval at h
  simp only [] at h
  rw [Array.getD_eq_getD_getElem?] at h
  cases ht:a.tmps[j]? with
  | none=>exact .inl rfl
  | some v=>rw [ht] at h; simp at h; rw [h]; exact .inr rfl
theorem Iy {j gi:Nat} {want want':Bool} (hg:ACw ops (some (j,want)) (some (gi,want'))=true):want=want'∧∀ tmps,yielded ops tmps gi=match tmps[j]? with | some (.bool b)=>some b | _=>none:=by
  simp only [ACw,Bool.and_eq_true,beq_iff_eq] at hg
  obtain ⟨h1,h2⟩:=hg
  refine ⟨h1,fun tmps => ?_⟩
  unfold yielded
  split at h2
  · rename_i o' ho'
    split at h2
    · rename_i d hd
      have:=Nat.eq_of_beq_eq_true h2
      subst this
      simp only [ho',Option.bind_some,hd]
      rfl
    · cases h2
  · cases h2
theorem Xh.put (hs:Xh A ρ w s a) {A':Nat→Prop} {ρ':Xf} {w':World} (hl:X9 A ρ w A' ρ' w') {d:Option Nat} {v:SV} {v':Value} (hd:∀ i,d=some i→i<a.tmps.size) (hv:Zl A' ρ' w' v v') :
    Xh A' ρ' w' (T7 s d v) (a.put d v'):=fun i=>by
  unfold T7
  by_cases hi:d=some i
  · rw [if_pos hi]
    subst hi
    have:=hd i rfl
    simp [Act.put,Act.eval,Array.getD_eq_getD_getElem?,this]
    exact hv
  · rw [if_neg hi,Act.eval_put (fun e he h1=>by cases h1; exact hi he)]
    exact hl.repV (hs i)
theorem Kl {d:Option Nat} {v:Value}:(a.put d v).tmps.size=a.tmps.size:=by cases d <;> simp [Act.put]
theorem Q3 {d:Option Nat} {v:Value}:(a.put d v).defers=a.defers:=by cases d <;> rfl
theorem AIx {i:Nat} {l:Ln} (hi:ops[i]?=some o) (st:St B w0 A ρ own w h) (hs:Xh A ρ w s a) {cf:Calls} (hcf:Vw P cf) (hc:Kw P N ops l o=true) {draw:Bool} {v:SV} {e:Eff}
    (h1:Va cf draw l s h v e) {K:Act→World→Prop} (hK:∀ v' w' A' ρ' own',St B w0 A' ρ' own' w' (X7 h e)→X9 A ρ w A' ρ' w'→Zl A' ρ' w' v v'→K (a.put o.dst v') w'):wpOp P ops Q i K a w:=by
  unfold Kw at hc
  simp only [Bool.and_eq_true] at hc
  obtain ⟨⟨c1,c2⟩,c3⟩:=hc
  have hexec:Dv cf draw l s h v e→Region.wanted o (yielded ops a.tmps)=true→wpOp P ops Q i K a w:=fun hx hw=>by
    unfold wpOp
    simp only [hi,hw,if_true]
    have hg:gop cf s h l.op prE=some (v,e):=by
      obtain ⟨_,hx⟩:=hx
      cases draw with
      | false=>exact hx
      | true=>exact AQr (ANo _ h) hx
    exact .inl (AA4 st hs hcf c1 hg K Q hK)
  have hskip:v=.und→e=[]→Region.wanted o (yielded ops a.tmps)=false→wpOp P ops Q i K a w:=fun e1 e2 hw=>by
    unfold wpOp
    simp only [hi,hw]
    subst e1 e2
    exact hK undef w A ρ own st (X9.refl ..) (by simp only [Zl])
  unfold Va at h1
  cases hg:l.g with
  | none =>
    rw [hg] at c3 h1
    cases hog:o.guard with
    | none=>exact hexec h1 (by simp [Region.wanted,hog])
    | some p=>rw [hog] at c3; cases c3
  | some p =>
    obtain ⟨j,want⟩:=p
    rw [hg] at c3 h1
    cases hog:o.guard with
    | none=>rw [hog] at c3; cases c3
    | some p' =>
      obtain ⟨gi,want'⟩:=p'
      rw [hog] at c3
      obtain ⟨e1,e2⟩:=Iy c3
      subst e1
      simp only [] at h1
      rcases h1 with ⟨b,hb,h1⟩ | ⟨hb,h1,h2⟩
      · have k1:=hs j
        rw [hb] at k1
        have k2:=AAt (Jj k1)
        rcases h1 with ⟨rfl,h1⟩ | ⟨hne,h1,h2⟩
        · exact hexec h1 (by simp [Region.wanted,hog,e2,k2])
        · exact hskip h1 h2 (by simp [Region.wanted,hog,e2,k2,hne])
      · have k1:=hs j
        rw [hb] at k1
        refine hskip h1 h2 ?_
        rcases AEj (AFx k1) with k2 | k2
        · simp [Region.wanted,hog,e2,k2]
        · simp [Region.wanted,hog,e2,k2,undef]
end
end Go.Proofs.YtjobjooccgledaaGreatDoor.Ghost
namespace Go.Proofs.YtjobjooccgledaaGreatDoor.Ghost
open Go
def exS:List Ln→List (SV×Eff)→(Nat→Bool)→Nat→(Nat→SV)→Nat→SV
  | l :: r,(v,_) :: q,E,k,s=>exS r q E (k+1) (bif E k then T7 s l.d v else s)
  | _,_,_,_,s=>s
def exH:List (SV×Eff)→(Nat→Bool)→Nat→(Nat→Obj)→Nat→Obj
  | (_,e) :: q,E,k,h=>exH q E (k+1) (bif E k then X7 h e else h)
  | [],_,_,h=>h
theorem AH7 {E:Nat→Bool}:(ls:List Ln)→(q:List (SV×Eff))→(k:Nat)→(s:Nat→SV)→(∀ m,m<q.length→E (k+m)=true)→exS ls q E k s=C7 ls q s
  | l :: r,(v,e) :: q,k,s,hE=>by
    simp only [exS,C7]
    have:=hE 0 (by simp)
    simp only [Nat.add_zero] at this
    rw [this,cond_true]
    exact AH7 r q (k+1) _ (fun m hm=>by rw [Nat.add_right_comm]; exact hE (m+1) (by simpa using hm))
  | [],[],_,_,_=>rfl
  | [],_ :: _,_,_,_=>rfl
  | _ :: _,[],_,_,_=>rfl
theorem AH6 {E:Nat→Bool}:(q:List (SV×Eff))→(k:Nat)→(h:Nat→Obj)→(∀ m,m<q.length→E (k+m)=true)→exH q E k h=C6 q h
  | (v,e) :: q,k,h,hE=>by
    simp only [exH,C6]
    have:=hE 0 (by simp)
    simp only [Nat.add_zero] at this
    rw [this,cond_true]
    exact AH6 q (k+1) _ (fun m hm=>by rw [Nat.add_right_comm]; exact hE (m+1) (by simpa using hm))
  | [],_,_,_=>rfl
theorem Ir {E:Nat→Bool}:(ls:List Ln)→(q:List (SV×Eff))→(k:Nat)→(s:Nat→SV)→(∀ m,k≤m→E m=false)→exS ls q E k s=s
  | l :: r,(v,e) :: q,k,s,hE=>by
    simp only [exS]
    rw [hE k (Nat.le_refl k),cond_false]
    exact Ir r q (k+1) _ (fun m hm=>hE m (by omega))
  | [],[],_,_,_=>rfl
  | [],_ :: _,_,_,_=>rfl
  | _ :: _,[],_,_,_=>rfl
theorem Ts {E:Nat→Bool}:(q:List (SV×Eff))→(k:Nat)→(h:Nat→Obj)→(∀ m,k≤m→E m=false)→exH q E k h=h
  | (v,e) :: q,k,h,hE=>by
    simp only [exH]
    rw [hE k (Nat.le_refl k),cond_false]
    exact Ts q (k+1) _ (fun m hm=>hE m (by omega))
  | [],_,_,_=>rfl
theorem Mn {E1 E2:Nat→Bool} {t:Nat}:(ls:List Ln)→(q:List (SV×Eff))→(k:Nat)→(s1 s2:Nat→SV)→s1 t=s2 t→(∀ m l,ls[m]?=some l→E1 (k+m)≠E2 (k+m)→l.d≠some t)→exS ls q E1 k s1 t=exS ls q E2 k s2 t
  | l :: r,(v,e) :: q,k,s1,s2,hs,hE=>by
    simp only [exS]
    refine Mn r q (k+1) _ _ ?_ (fun m l hm hne=>hE (m+1) l (by simpa using hm) (by rw [Nat.add_right_comm] at hne; exact hne))
    have h0:=hE 0 l rfl
    simp only [Nat.add_zero] at h0
    cases h1:E1 k <;> cases h2:E2 k <;> simp only [cond_true,cond_false,T7]
    · exact hs
    · rw [if_neg (h0 (by rw [h1,h2]; simp))]; exact hs
    · rw [if_neg (h0 (by rw [h1,h2]; simp))]; exact hs
    · rw [hs]
  | [],[],_,_,_,hs,_=>hs
  | [],_ :: _,_,_,_,hs,_=>hs
  | _ :: _,[],_,_,_,hs,_=>hs
def Tr (e:Eff) (g:Nat):Prop:=∃ p,p∈e∧p.1=g
theorem Nf {g:Nat}:(e:Eff)→(h1 h2:Nat→Obj)→(Tr e g∨h1 g=h2 g)→X7 h1 e g=X7 h2 e g
  | [],_,_,hd=>hd.elim (fun ⟨_,h,_⟩=>by cases h) id
  | (k,o) :: r,h1,h2,hd=>by
    simp only [X7]
    refine Nf r _ _ ?_
    by_cases hk:g=k
    · exact .inr (by simp [hk])
    · simp only [hk,if_false]
      rcases hd with ⟨p,hp,rfl⟩ | hd
      · rcases List.mem_cons.1 hp with rfl | hp
        · exact absurd rfl hk
        · exact .inl ⟨p,hp,rfl⟩
      · exact .inr hd
theorem Me {e:Eff} {h:Nat→Obj} {g:Nat} (hd:¬ Tr e g):X7 h e g=h g:=P1 e (fun q hq e'=>hd ⟨q,hq,e'⟩)
theorem W9 {E1 E2:Nat→Bool} {g:Nat}:(q:List (SV×Eff))→(k:Nat)→(h1 h2:Nat→Obj)→h1 g=h2 g→(∀ m v e,q[m]?=some (v,e)→E1 (k+m)≠E2 (k+m)→¬ Tr e g)→exH q E1 k h1 g=exH q E2 k h2 g
  | (v,e) :: q,k,h1,h2,hs,hE=>by
    simp only [exH]
    refine W9 q (k+1) _ _ ?_ (fun m v e hm hne=>hE (m+1) v e (by simpa using hm) (by rw [Nat.add_right_comm] at hne; exact hne))
    have h0:=hE 0 v e rfl
    simp only [Nat.add_zero] at h0
    cases k1:E1 k <;> cases k2:E2 k <;> simp only [cond_true,cond_false]
    · exact hs
    · rw [Me (h0 (by rw [k1,k2]; simp))]; exact hs
    · rw [Me (h0 (by rw [k1,k2]; simp))]; exact hs
    · exact Nf e _ _ (.inr hs)
  | [],_,_,_,hs,_=>hs
theorem AEl {E:Nat→Bool} {t i:Nat} {l:Ln} {v:SV} {e:Eff}:(ls:List Ln)→(q:List (SV×Eff))→(k m:Nat)→(s:Nat→SV)→ls[m]?=some l→q[m]?=some (v,e)→E (k+m)=true→l.d=some t →
    (∀ m' l',m<m'→ls[m']?=some l'→E (k+m')=true→l'.d≠some t)→exS ls q E k s t=v
  | l0 :: r,(v0,e0) :: q,k,0,s,hl,hq,hE,hd,hn=>by
    simp at hl hq
    obtain ⟨rfl,rfl⟩:=hq
    subst hl
    simp only [exS]
    simp only [Nat.add_zero] at hE
    rw [hE,cond_true,Mn (E2:=fun _=>false) r q (k+1) _ (T7 s l0.d v0) rfl (fun m' l' hm hne=>hn (m'+1) l' (by omega) (by simpa using hm) (by
      rw [show k+(m'+1)=k+1+m' by omega]
      cases h:E (k+1+m') <;> simp_all)),Ir _ _ _ _ (fun _ _=>rfl)]
    simp [T7,hd]
  | l0 :: r,(v0,e0) :: q,k,m+1,s,hl,hq,hE,hd,hn=>by
    simp only [exS]
    exact AEl (i:=i) r q (k+1) m _ (by simpa using hl) (by simpa using hq) (by rw [Nat.add_right_comm]; exact hE) hd (fun m' l' h1 h2 h3=>hn (m'+1) l' (by omega) (by simpa using h2) (by rw [Nat.add_right_comm] at h3; exact h3))
  | [],_,_,_,_,hl,_,_,_,_=>by simp at hl
  | _ :: _,[],_,_,_,_,hq,_,_,_=>by simp at hq
theorem AEk {E:Nat→Bool} {g:Nat} {v:SV} {e:Eff} {h0:Nat→Obj}:(q:List (SV×Eff))→(k m:Nat)→(h:Nat→Obj)→q[m]?=some (v,e)→E (k+m)=true→Tr e g →
    (∀ m' v' e',m<m'→q[m']?=some (v',e')→E (k+m')=true→¬ Tr e' g)→exH q E k h g=X7 h0 e g
  | (v0,e0) :: q,k,0,h,hq,hE,hd,hn=>by
    simp at hq
    obtain ⟨rfl,rfl⟩:=hq
    simp only [exH]
    simp only [Nat.add_zero] at hE
    rw [hE,cond_true,W9 (E2:=fun _=>false) q (k+1) _ (X7 h e0) rfl (fun m' v' e' hm hne=>hn (m'+1) v' e' (by omega) (by simpa using hm) (by
      rw [show k+(m'+1)=k+1+m' by omega]
      cases h:E (k+1+m') <;> simp_all)),Ts _ _ _ (fun _ _=>rfl)]
    exact Nf e0 _ _ (.inl hd)
  | (v0,e0) :: q,k,m+1,h,hq,hE,hd,hn=>by
    simp only [exH]
    exact AEk q (k+1) m _ (by simpa using hq) (by rw [Nat.add_right_comm]; exact hE) hd (fun m' v' e' h1 h2 h3=>hn (m'+1) v' e' (by omega) (by simpa using h2) (by rw [Nat.add_right_comm] at h3; exact h3))
  | [],_,_,_,hq,_,_,_=>by simp at hq
theorem AHe {cf:Calls} {draw:Bool}:(ls:List Ln)→(q:List (SV×Eff))→(k:Nat)→(s:Nat→SV)→(h:Nat→Obj)→Ran cf draw ls s h q→q.length=ls.length ∧
    ∀ m l,ls[m]?=some l→∃ v e,q[m]?=some (v,e)∧Va cf draw l (exS ls q (fun j=>decide (j<k+m)) k s) (exH q (fun j=>decide (j<k+m)) k h) v e
  | [],q,_,_,_,hr=>by
    have:q=[]:=hr
    subst this
    exact ⟨rfl,fun m l hm=>by simp at hm⟩
  | l :: r,q,k,s,h,hr=>by
    obtain ⟨v,e,q',rfl,h1,h2⟩:=hr
    obtain ⟨i1,i2⟩:=AHe r q' (k+1) _ _ h2
    refine ⟨by simp [i1],fun m l' hm => ?_⟩
    cases m with
    | zero =>
      simp at hm
      subst hm
      refine ⟨v,e,rfl,?_⟩
      rw [Ir _ _ _ _ (fun m hm=>by simp; omega),Ts _ _ _ (fun m hm=>by simp; omega)]
      exact h1
    | succ m =>
      obtain ⟨v',e',j1,j2⟩:=i2 m l' (by simpa using hm)
      refine ⟨v',e',by simpa using j1,?_⟩
      simp only [exS,exH]
      have e1:decide (k<k+(m+1))=true:=by simp
      rw [e1,cond_true,cond_true,show k+(m+1)=k+1+m by omega]
      exact j2
def Px:List Opd→List Nat
  | []=>[]
  | .t i :: r=>i :: Px r
  | _ :: r=>Px r
def Fo (l:Ln):List Nat:=match l.g with
  | none=>Px (Lh l.op)
  | some (j,_)=>j :: Px (Lh l.op)
theorem Te {x:Nat}:{l:List Opd}→.t x∈l→x∈Px l
  | [],h=>by cases h
  | .t i :: r,h=>by
    rcases List.mem_cons.1 h with h | h
    · cases h; simp [Px]
    · simp [Px,Te h]
  | .c _ _ :: r,h=>by
    rcases List.mem_cons.1 h with h | h
    · cases h
    · simp only [Px]; exact Te h
  | .f _ :: r,h=>by
    rcases List.mem_cons.1 h with h | h
    · cases h
    · simp only [Px]; exact Te h
  | .g _ :: r,h=>by
    rcases List.mem_cons.1 h with h | h
    · cases h
    · simp only [Px]; exact Te h
  | .nf :: r,h=>by
    rcases List.mem_cons.1 h with h | h
    · cases h
    · simp only [Px]; exact Te h
theorem AJl {s s':Nat→SV} {l:List Opd} (hs:∀ t,t∈Px l→s t=s' t):∀ x,x∈l→evO s x=evO s' x:=fun x hx=>by
  cases x with
  | t i=>exact hs i (Te hx)
  | _=>rfl
theorem Md {ids:List Nat} {g:Nat}:ids.any (Nat.beq g)=true↔g∈ids:=by
  rw [List.any_eq_true]
  constructor
  · rintro ⟨x,h1,h2⟩; rw [Nat.eq_of_beq_eq_true h2]; exact h1
  · intro h; exact ⟨g,h,by simp⟩
theorem AG8 {ids:List Nat} {h h':Nat→Obj} (hh:∀ g,g∈ids→h g=h' g):Bw ids h=Bw ids h':=by
  funext g
  unfold Bw
  cases ha:ids.any (Nat.beq g) with
  | true=>exact hh g (Md.1 ha)
  | false=>rfl
theorem Va.congr {cf:Calls} {l:Ln} {s s':Nat→SV} {h h':Nat→Obj} {v:SV} {e:Eff} (h1:Va cf true l s h v e) (hs:∀ t,t∈Fo l→s t=s' t) (hh:∀ g,g∈l.rd ++ l.wr→h g=h' g):Va cf true l s' h' v e:=by
  have hx:(∀ t,t∈Px (Lh l.op)→s t=s' t)→Dv cf true l s h v e→Dv cf true l s' h' v e:=fun hs ⟨k1,k2⟩=>by
    refine ⟨k1,?_⟩
    unfold hvw at k2 ⊢
    simp only [] at k2 ⊢
    rw [← AG8 hh,← AJ2 (AJl hs)]
    exact k2
  unfold Va at h1 ⊢
  unfold Fo at hs
  cases hg:l.g with
  | none=>rw [hg] at h1 hs; exact hx hs h1
  | some p =>
    obtain ⟨j,want⟩:=p
    rw [hg] at h1 hs
    simp only [] at h1 hs ⊢
    rw [← hs j (by simp)]
    have hx:=hx (fun t ht=>hs t (by simp [ht]))
    rcases h1 with ⟨b,hb,⟨k1,k2⟩ | k1⟩ | h1
    · exact .inl ⟨b,hb,.inl ⟨k1,hx k2⟩⟩
    · exact .inl ⟨b,hb,.inr k1⟩
    · exact .inr h1
theorem AAr {wr:List Nat}:{e:Eff}→AAq wr e=true→∀ g,Tr e g→g∈wr
  | [],_,_,⟨_,h,_⟩=>by cases h
  | (k,o) :: r,he,g,⟨p,hp,hg⟩=>by
    simp only [AAq,Bool.and_eq_true] at he
    rcases List.mem_cons.1 hp with rfl | hp
    · subst hg; exact Md.1 he.1
    · exact AAr he.2 g ⟨p,hp,hg⟩
theorem Va.dom {cf:Calls} {l:Ln} {s:Nat→SV} {h:Nat→Obj} {v:SV} {e:Eff} (h1:Va cf true l s h v e):∀ g,Tr e g→g∈l.wr:=by
  have hx:Dv cf true l s h v e→∀ g,Tr e g→g∈l.wr:=fun hx=>AAr (hx.1 rfl)
  have h0:e=[]→∀ g,Tr e g→g∈l.wr:=fun he g ⟨p,hp,_⟩=>by rw [he] at hp; cases hp
  unfold Va at h1
  cases hg:l.g with
  | none=>rw [hg] at h1; exact hx h1
  | some p =>
    obtain ⟨j,want⟩:=p
    rw [hg] at h1
    rcases h1 with ⟨b,hb,⟨_,k2⟩ | ⟨_,_,k⟩⟩ | ⟨_,_,k⟩
    · exact hx k2
    · exact h0 k
    · exact h0 k
end Go.Proofs.YtjobjooccgledaaGreatDoor.Ghost
namespace Go.Proofs.YtjobjooccgledaaGreatDoor.Ghost
open Go
section
variable {P:Program} {B N:Nat} {w0:Y6} {ops:Array Oper} {Q:Exit→Act→World→Prop} {cf:Calls}
structure At (N B:Nat) (w0:Y6) (s:Nat→SV) (h:Nat→Obj) (A:Nat→Prop) (ρ:Xf) (own:Nat→Option Nat) (a:Act) (w:World):Prop where
  st:St B w0 A ρ own w h
  sl:Xh A ρ w s a
  sz:a.tmps.size=N
  df:a.defers=[]
def Is (N B:Nat) (w0:Y6) (s:Nat→SV) (h:Nat→Obj) (a:Act) (w:World):Prop:=∃ A ρ own,At N B w0 s h A ρ own a w
theorem Rp {i:Nat} {o:Oper} {l:Ln} {a:Act} {w:World} {h:Nat→Obj} {s:Nat→SV} (hi:ops[i]?=some o) (hs:Is N B w0 s h a w) (hcf:Vw P cf) (hc:Kw P N ops l o=true) {draw:Bool} {v:SV} {e:Eff}
    (h1:Va cf draw l s h v e) {K:Act→World→Prop} (hK:∀ a' w',Is N B w0 (T7 s l.d v) (X7 h e) a' w'→K a' w'):wpOp P ops Q i K a w:=by
  obtain ⟨A,ρ,own,st,sl,sz,df⟩:=hs
  have hd:l.d=o.dst∧∀ i,l.d=some i→i<N:=by
    unfold Kw at hc
    simp only [Bool.and_eq_true] at hc
    exact Oc hc.1.2
  refine AIx hi st sl hcf hc h1 (fun v' w' A' ρ' own' st' hl hv=>hK _ _ ⟨A',ρ',own',st',?_,by rw [Kl,sz],by rw [Q3,df]⟩)
  rw [← hd.1]
  exact Xh.put sl hl (fun i hi=>by rw [sz]; exact hd.2 i hi) hv
theorem ABr (hcf:Vw P cf):(ls:List Ln)→(k:Nat)→{s:Nat→SV}→{h:Nat→Obj}→{q:List (SV×Eff)}→{a:Act}→{w:World}→(∀ m l,ls[m]?=some l→∃ o,ops[k+m]?=some o∧Kw P N ops l o=true) →
    Ran cf false ls s h q→Is N B w0 s h a w→(∀ a' w',Is N B w0 (C7 ls q s) (C6 q h) a' w'→Q .normal a' w')→wpOps P ops Q (List.range' k ls.length) a w
  | [],k,s,h,q,a,w,hc,hr,hs,hQ=>by
    have:q=[]:=hr
    subst this
    exact hQ a w hs
  | l :: r,k,s,h,q,a,w,hc,hr,hs,hQ=>by
    obtain ⟨v,e,q',rfl,h1,h2⟩:=hr
    obtain ⟨o,ho,hco⟩:=hc 0 l rfl
    simp only [List.length_cons,List.range'_succ]
    rw [wpOps_cons]
    refine Rp ho hs hcf hco h1 (fun a' w' hs'=>ABr hcf r (k+1) (fun m l hm => ?_) h2 hs' hQ)
    obtain ⟨o',k1,k2⟩:=hc (m+1) l (by simpa using hm)
    exact ⟨o',by rw [Nat.add_right_comm]; exact k1,k2⟩
def F2 (l m:List Nat):Bool := !(l.any fun x=>m.any (Nat.beq x))
theorem H6 {l m:List Nat} (h:F2 l m=true) {x:Nat} (h1:x∈l) (h2:x∈m):False:=by
  unfold F2 at h
  rw [Bool.not_eq_true',List.any_eq_false] at h
  exact h x h1 (Md.2 h2)
def dLs (l:Ln):List Nat:=match l.d with | some d=>[d] | none=>[]
def BHa (x y:Ln):Bool:=F2 (dLs x) (Fo y) && F2 (dLs y) (Fo x) && F2 (dLs x) (dLs y) && F2 x.wr (y.rd ++ y.wr) && F2 y.wr (x.rd ++ x.wr)
def ANg:GOp→Bool
  | .lookup _ _ _ _=>true
  | _=>false
def AA7:GOp→Bool
  | .mapent _ _ _ _=>true
  | _=>false
def AIv (x y:Ln):Bool:=ANg x.op && AA7 y.op && (match x.wr with | []=>true | _=>false) && F2 (dLs x) (Fo y) && F2 (dLs y) (Fo x) && F2 (dLs x) (dLs y)
def C4 (x y:Ln):Bool:=BHa x y || AIv x y || AIv y x
theorem AC5 {l:Ln} {d:Nat} (h:l.d=some d):d∈dLs l:=by unfold dLs; rw [h]; simp
theorem AJf {l m:List Nat} (h:F2 l m=true):F2 m l=true:=by
  unfold F2
  rw [Bool.not_eq_true',List.any_eq_false]
  intro x hx hy
  exact H6 h (Md.1 hy) hx
theorem AJe {x y:Ln} (h:C4 x y=true):C4 y x=true:=by
  unfold C4 at h ⊢
  simp only [Bool.or_eq_true] at h ⊢
  rcases h with (h | h) | h
  · refine .inl (.inl ?_)
    unfold BHa at h ⊢
    simp only [Bool.and_eq_true] at h ⊢
    obtain ⟨⟨⟨⟨h1,h2⟩,h3⟩,h4⟩,h5⟩:=h
    exact ⟨⟨⟨⟨h2,h1⟩,AJf h3⟩,h5⟩,h4⟩
  · exact .inr h
  · exact .inl (.inr h)
theorem Uu {l y:Ln} (h:C4 l y=true):(∀ t,t∈dLs y→t∈Fo l→False)∧(∀ t,t∈dLs l→t∈dLs y→False)∧(∀ g,g∈l.wr→g∈y.wr→False)∧((∀ g,g∈y.wr→g∈l.rd ++ l.wr→False)∨(ANg l.op=true∧AA7 y.op=true)):=by
  have nil:∀ {w:List Nat},(match w with | []=>true | _=>false)=true→w=[]:=fun {w} h=>by cases w with | nil=>rfl | cons _ _=>cases h
  unfold C4 at h
  simp only [Bool.or_eq_true] at h
  rcases h with (h | h) | h
  · unfold BHa at h
    simp only [Bool.and_eq_true] at h
    obtain ⟨⟨⟨⟨h1,h2⟩,h3⟩,h4⟩,h5⟩:=h
    exact ⟨fun t a b=>H6 h2 a b,fun t a b=>H6 h3 a b,fun g a b=>H6 h4 a (List.mem_append_right _ b),.inl fun g a b=>H6 h5 a b⟩
  · unfold AIv at h
    simp only [Bool.and_eq_true] at h
    obtain ⟨⟨⟨⟨⟨h1,h2⟩,h3⟩,h4⟩,h5⟩,h6⟩:=h
    have e:=nil h3
    exact ⟨fun t a b=>H6 h5 a b,fun t a b=>H6 h6 a b,(fun g a b=>by rw [e] at a; cases a),.inr ⟨h1,h2⟩⟩
  · unfold AIv at h
    simp only [Bool.and_eq_true] at h
    obtain ⟨⟨⟨⟨⟨h1,h2⟩,h3⟩,h4⟩,h5⟩,h6⟩:=h
    have e:=nil h3
    exact ⟨fun t a b=>H6 h4 a b,fun t a b=>H6 h6 b a,(fun g a b=>by rw [e] at b; cases b),.inl (fun g a b=>by rw [e] at a; cases a)⟩
def ALg (o:Oper) (Bs:List Nat):Nat:=o.after.toList.foldl (fun s e=>bif Region.binds .any e then s ||| 2 ^ e.on ||| Bs.getD e.on 0 else s) 0
def AOq:List Oper→List Nat→List Nat
  | [],acc=>acc
  | o :: r,acc=>AOq r (acc ++ [ALg o acc])
theorem AAj {o:Oper} {Bs:List Nat} {i:Nat} (h:(ALg o Bs).testBit i=true):∃ e,e∈o.after∧Region.binds .any e=true∧(e.on=i∨(Bs.getD e.on 0).testBit i=true):=by
  have key:∀ (l:List Edge) (s:Nat),(l.foldl (fun s e=>bif Region.binds .any e then s ||| 2 ^ e.on ||| Bs.getD e.on 0 else s) s).testBit i=true→s.testBit i=true∨∃ e,e∈l∧Region.binds .any e=true∧(e.on=i∨(Bs.getD e.on 0).testBit i=true):=by
    intro l
    induction l with
    | nil=>intro s h; exact .inl h
    | cons e r ih =>
      intro s h
      simp only [List.foldl_cons] at h
      rcases ih _ h with h | ⟨e',h1,h2⟩
      · cases hb:Region.binds .any e with
        | false=>rw [hb,cond_false] at h; exact .inl h
        | true =>
          rw [hb,cond_true,Nat.testBit_or,Nat.testBit_or,Nat.testBit_two_pow] at h
          simp only [Bool.or_eq_true,decide_eq_true_eq] at h
          rcases h with (h | h) | h
          · exact .inl h
          · exact .inr ⟨e,by simp,hb,.inl h⟩
          · exact .inr ⟨e,by simp,hb,.inr h⟩
      · exact .inr ⟨e',by simp [h1],h2⟩
  rcases key _ _ h with h | ⟨e,h1,h2⟩
  · simp at h
  · exact ⟨e,by simpa using h1,h2⟩
def AB7 (Bs:List Nat):Nat→List Oper→Bool
  | _,[]=>true
  | j,o :: r=>Nat.beq (Bs.getD j 0) (ALg o Bs) && o.after.toList.all (fun e => !(Region.binds .any e) || Nat.blt e.on j) && AB7 Bs (j+1) r
def D4 (Bs:List Nat) (j:Nat) (y:Ln):Nat→List Ln→Bool
  | _,[]=>true
  | i,x :: r=>(bif Nat.blt i j then (Bs.getD j 0).testBit i || C4 x y else true) && D4 Bs j y (i+1) r
def Ii (Bs:List Nat) (all:List Ln):Nat→List Ln→Bool
  | _,[]=>true
  | j,y :: r=>D4 Bs j y 0 all && Ii Bs all (j+1) r
def ACb (ops:List Oper) (ls:List Ln):Bool:=AB7 (AOq ops []) 0 ops && Ii (AOq ops []) ls 0 ls
theorem E6 {Bs:List Nat}:(l:List Oper)→(k:Nat)→AB7 Bs k l=true→∀ m o,l[m]?=some o→Bs.getD (k+m) 0=ALg o Bs∧∀ e,e∈o.after→Region.binds .any e=true→e.on<k+m
  | [],_,_,m,o,h=>by simp at h
  | o :: r,k,hc,m,o',hm=>by
    simp only [AB7,Bool.and_eq_true] at hc
    obtain ⟨⟨h1,h2⟩,h3⟩:=hc
    cases m with
    | zero =>
      simp at hm
      subst hm
      refine ⟨Nat.eq_of_beq_eq_true h1,fun e he hb => ?_⟩
      have:=List.all_eq_true.1 h2 e (by simpa using he)
      rw [hb] at this
      simpa [Nat.blt_eq] using this
    | succ m =>
      have:=E6 r (k+1) h3 m o' (by simpa using hm)
      rw [show k+(m+1)=k+1+m by omega]
      exact this
theorem Ih {Bs:List Nat} {j:Nat} {y:Ln}:(l:List Ln)→(k:Nat)→D4 Bs j y k l=true→∀ m x,l[m]?=some x→k+m<j→(Bs.getD j 0).testBit (k+m)=true∨C4 x y=true
  | [],_,_,m,o,h,_=>by simp at h
  | x :: r,k,hc,m,x',hm,hlt=>by
    simp only [D4,Bool.and_eq_true] at hc
    cases m with
    | zero =>
      simp at hm
      subst hm
      have hb:Nat.blt k j=true:=by rw [Nat.blt_eq]; simpa using hlt
      have:=hc.1
      rw [hb,cond_true,Bool.or_eq_true] at this
      exact this
    | succ m =>
      have:=Ih r (k+1) hc.2 m x' (by simpa using hm) (by omega)
      rw [show k+(m+1)=k+1+m by omega]
      exact this
theorem La {Bs:List Nat} {all:List Ln}:(l:List Ln)→(k:Nat)→Ii Bs all k l=true→∀ m y,l[m]?=some y→∀ i x,all[i]?=some x→i<k+m→(Bs.getD (k+m) 0).testBit i=true∨C4 x y=true
  | [],_,_,m,o,h=>by simp at h
  | y :: r,k,hc,m,y',hm=>by
    simp only [Ii,Bool.and_eq_true] at hc
    cases m with
    | zero =>
      simp at hm
      subst hm
      intro i x hi hlt
      have:=Ih all 0 hc.1 i x hi (by simpa using hlt)
      simpa using this
    | succ m =>
      have:=La r (k+1) hc.2 m y' (by simpa using hm)
      rw [show k+(m+1)=k+1+m by omega]
      exact this
end
end Go.Proofs.YtjobjooccgledaaGreatDoor.Ghost
namespace Go.Proofs.YtjobjooccgledaaGreatDoor.Ghost
open Go
section
variable {P:Program} {B N:Nat} {w0:Y6} {ops:Array Oper} {Q:Exit→Act→World→Prop} {cf:Calls} {ls:List Ln} {q:List (SV×Eff)} {s:Nat→SV} {h:Nat→Obj}
def AB1 (ops:Array Oper) (E:Nat→Bool):Prop:=∀ j o,ops[j]?=some o→E j=true→∀ e,e∈o.after→Region.binds .any e=true→E e.on=true
def bs (ops:Array Oper):List Nat:=AOq ops.toList []
structure Fp (ops:Array Oper) (ls:List Ln):Prop where
  len:ls.length=ops.size
  bef:∀ j o,ops[j]?=some o→(bs ops).getD j 0=ALg o (bs ops)∧∀ e,e∈o.after→Region.binds .any e=true→e.on<j
  pair:∀ i j x y,ls[i]?=some x→ls[j]?=some y→i<j→((bs ops).getD j 0).testBit i=true∨C4 x y=true
theorem AGl (hl:ls.length=ops.size) (hd:ACb ops.toList ls=true):Fp ops ls:=by
  unfold ACb at hd
  rw [Bool.and_eq_true] at hd
  refine ⟨hl,fun j o hj => ?_,fun i j x y hi hj hlt => ?_⟩
  · have:=E6 ops.toList 0 hd.1 j o (by simpa using hj)
    simpa [bs] using this
  · have:=La ls 0 hd.2 j y hj i x hi (by simpa using hlt)
    simpa [bs] using this
theorem Rd (hd:Fp ops ls) {E:Nat→Bool} (hE:AB1 ops E) {i:Nat}:(n j:Nat)→j<n→{o:Oper}→ops[j]?=some o→E j=true→((bs ops).getD j 0).testBit i=true→E i=true
  | 0,_,hj,_,_,_,_=>by omega
  | n+1,j,hj,o,ho,hEj,ht=>by
    obtain ⟨k1,k2⟩:=hd.bef j o ho
    rw [k1] at ht
    obtain ⟨e,h1,h2,h3⟩:=AAj ht
    have hEe:=hE j o ho hEj e h1 h2
    rcases h3 with h3 | h3
    · rw [← h3]; exact hEe
    · have hlt:=k2 e h1 h2
      have hsz:j<ops.size:=(Array.getElem?_eq_some_iff.1 ho).1
      exact Rd hd hE n e.on (by omega) (o:=ops[e.on]'(by omega)) (Array.getElem?_eq_getElem _) hEe h3
theorem AKf (hd:Fp ops ls) {E:Nat→Bool} (hE:AB1 ops E) {i:Nat} {o:Oper} (ho:ops[i]?=some o) (hi:E i=false) (hr:∀ e,e∈o.after→Region.binds .any e=true→E e.on=true) {l:Ln} (hl:ls[i]?=some l)
    {j:Nat} {y:Ln} (hj:ls[j]?=some y) (hne:j≠i) (hd':E j≠decide (j<i)):C4 l y=true:=by
  rcases Nat.lt_or_ge j i with hlt | hge
  · rw [decide_eq_true hlt] at hd'
    refine AJe ((hd.pair j i y l hj hl hlt).resolve_left fun ht=>hd' ?_)
    obtain ⟨k1,k2⟩:=hd.bef i o ho
    rw [k1] at ht
    obtain ⟨e,h1,h2,h3⟩:=AAj ht
    have hEe:=hr e h1 h2
    rcases h3 with h3 | h3
    · rw [← h3]; exact hEe
    · have hlt:=k2 e h1 h2
      have hsz:i<ops.size:=(Array.getElem?_eq_some_iff.1 ho).1
      exact Rd hd hE (e.on+1) e.on (by omega) (o:=ops[e.on]'(by omega)) (Array.getElem?_eq_getElem _) hEe h3
  · rw [decide_eq_false (by omega)] at hd'
    have hEj:E j=true:=by cases hx:E j with | true=>rfl | false=>exact absurd hx hd'
    refine (hd.pair i j l y hl hj (by omega)).resolve_left fun ht => ?_
    have hsz:j<ops.size:=by rw [← hd.len]; exact (List.getElem?_eq_some_iff.1 hj).1
    have:=Rd hd hE (j+1) j (by omega) (o:=ops[j]'hsz) (Array.getElem?_eq_getElem hsz) hEj ht
    rw [hi] at this; cases this
def Hs (a b:Obj):Prop:=a=b∨∃ (κ ν:Ty) (l l':List (den κ×den ν)),a=.map κ ν l∧b=.map κ ν l'∧∀ i,(Yo κ ν i l).getD (dft ν)=(Yo κ ν i l').getD (dft ν)
theorem Hs.refl (a:Obj):Hs a a:=.inl rfl
theorem Hs.symm {a b:Obj} (h:Hs a b):Hs b a:=by
  rcases h with h | ⟨κ,ν,l,l',h1,h2,h3⟩
  · exact .inl h.symm
  · exact .inr ⟨κ,ν,l',l,h2,h1,fun i=>(h3 i).symm⟩
theorem Hs.trans {a b c:Obj} (h:Hs a b) (k:Hs b c):Hs a c:=by
  rcases h with rfl | ⟨κ,ν,l,l',h1,h2,h3⟩
  · exact k
  · rcases k with rfl | ⟨κ2,ν2,m,m',k1,k2,k3⟩
    · exact .inr ⟨κ,ν,l,l',h1,h2,h3⟩
    · rw [h2] at k1
      cases k1
      exact .inr ⟨κ,ν,l,m',h1,k2,fun i=>(h3 i).trans (k3 i)⟩
theorem Nz {κ ν:Ty} (i:den κ) (r:List (den κ×den ν)):(l:List (den κ×den ν))→Yo κ ν i (l ++ r)=match Yo κ ν i l with | some v=>some v | none=>Yo κ ν i r
  | []=>rfl
  | (k,v) :: l=>by
    simp only [List.cons_append,Yo]
    split
    · rfl
    · exact Nz i r l
theorem AFj {κ ν:Ty} (i j:den κ) (l:List (den κ×den ν)):(Yo κ ν i (Ry κ ν j l)).getD (dft ν)=(Yo κ ν i l).getD (dft ν):=by
  unfold Ry
  split
  · rfl
  · rw [Nz]
    cases Yo κ ν i l with
    | some v=>rfl
    | none =>
      simp only [Yo]
      split <;> rfl
theorem BHh {R:Type} {cf:Calls} {s:Nat→SV} {h h':Nat→Obj} {op:GOp} (ho:ANg op=true) (hh:∀ g,Hs (h g) (h' g)) {K:SV→Eff→Option R} {r:R} (he:gop cf s h op K=some r):gop cf s h' op K=some r:=by
  cases op with
  | lookup κ0 ν0 m i =>
    simp only [gop] at he ⊢
    split at he
    · rename_i g σ y hm hi
      rcases hh g with e | ⟨κ,ν,l,l',h1,h2,h3⟩
      · rw [← e]; exact he
      · rw [h1] at he
        rw [h2]
        simp only [] at he ⊢
        split at he
        · rw [← h3]; exact he
        · cases he
    · cases he
  | _=>cases ho
theorem AQ4 {ids:List Nat} {h h':Nat→Obj} (hh:∀ g,g∈ids→Hs (h g) (h' g)) (g:Nat):Hs (Bw ids h g) (Bw ids h' g):=by
  unfold Bw
  cases hb:ids.any (Nat.beq g) with
  | true=>exact hh g (Md.1 hb)
  | false=>exact .refl _
theorem Va.congrLk {cf:Calls} {l:Ln} {s s':Nat→SV} {h h':Nat→Obj} {v:SV} {e:Eff} (hlk:ANg l.op=true) (h1:Va cf true l s h v e) (hs:∀ t,t∈Fo l→s t=s' t) (hh:∀ g,g∈l.rd ++ l.wr→Hs (h g) (h' g)):Va cf true l s' h' v e:=by
  refine Va.congr (h:=h') ?_ hs (fun _ _=>rfl)
  have hx:Dv cf true l s h v e→Dv cf true l s h' v e:=fun ⟨k1,k2⟩=>by
    refine ⟨k1,?_⟩
    unfold hvw at k2 ⊢
    exact BHh hlk (AQ4 hh) k2
  unfold Va at h1 ⊢
  cases hg:l.g with
  | none=>rw [hg] at h1; exact hx h1
  | some p =>
    obtain ⟨j,want⟩:=p
    rw [hg] at h1
    simp only [] at h1 ⊢
    rcases h1 with ⟨b,hb,⟨k1,k2⟩ | k1⟩ | h1
    · exact .inl ⟨b,hb,.inl ⟨k1,hx k2⟩⟩
    · exact .inl ⟨b,hb,.inr k1⟩
    · exact .inr h1
theorem Va.ent {cf:Calls} {l:Ln} {s:Nat→SV} {h:Nat→Obj} {v:SV} {e:Eff} (hl:AA7 l.op=true) (h1:Va cf true l s h v e) {g:Nat} (hd:Tr e g) (h':Nat→Obj):Hs (X7 h' e g) (h g):=by
  have h0:e=[]→False:=fun he=>by
    obtain ⟨p,hp,_⟩:=hd
    rw [he] at hp; cases hp
  have hx:Dv cf true l s h v e→Hs (X7 h' e g) (h g):=fun ⟨_,k2⟩=>by
    unfold hvw at k2
    cases hop:l.op with
    | mapent κ0 ν0 m i =>
      rw [hop] at k2
      simp only [gop] at k2
      split at k2
      · rename_i g1 σ y hm hi
        split at k2
        · rename_i κ ν lm hh
          split at k2
          · rename_i n pl1 pl2 e1 e2 e3
            unfold prE at k2
            simp only [Option.some.injEq,Prod.mk.injEq] at k2
            obtain ⟨rfl,rfl⟩:=k2
            obtain ⟨p,hp,hg⟩:=hd
            rw [List.mem_singleton] at hp
            subst hp
            simp only [] at hg
            subst hg
            have hh':h g1=.map κ ν lm:=by
              unfold Bw at hh
              split at hh
              · exact hh
              · cases hh
            rw [hh']
            have:X7 h' [(g1,.map κ ν (Ry κ ν n lm))] g1=.map κ ν (Ry κ ν n lm):=by simp [X7]
            rw [this]
            exact .inr ⟨κ,ν,_,_,rfl,rfl,fun i=>AFj i n lm⟩
          · cases k2
        · cases k2
      · cases k2
    | _=>rw [hop] at hl; cases hl
  unfold Va at h1
  cases hg:l.g with
  | none=>rw [hg] at h1; exact hx h1
  | some p =>
    obtain ⟨j,want⟩:=p
    rw [hg] at h1
    rcases h1 with ⟨b,hb,⟨_,k2⟩ | ⟨_,_,k⟩⟩ | ⟨_,_,k⟩
    · exact hx k2
    · exact absurd k h0
    · exact absurd k h0
theorem Iq {g:Nat} {E1 E2:Nat→Bool} (hard:Nat→Prop):(q:List (SV×Eff))→(k:Nat)→(x y z:Nat→Obj)→Hs (x g) (z g)→Hs (y g) (z g) →
    (∀ m v e,q[m]?=some (v,e)→Tr e g→hard (k+m)→E1 (k+m)=E2 (k+m)) →
    (∀ m v e,q[m]?=some (v,e)→Tr e g→¬ hard (k+m)→∀ h',Hs (X7 h' e g) (exH q (fun j=>decide (j<k+m)) k z g)) →
    (∀ i j vi ei vj ej,i<j→q[i]?=some (vi,ei)→q[j]?=some (vj,ej)→Tr ei g→Tr ej g→hard (k+i)→E1 (k+i)=false→E1 (k+j)=false∧E2 (k+j)=false) →
    Hs (exH q E1 k x g) (exH q E2 k y g)
  | [],k,x,y,z,hx,hy,_,_,_=>hx.trans hy.symm
  | (v,e) :: q,k,x,y,z,hx,hy,hA,hB,hC=>by
    have hA':∀ m v e,q[m]?=some (v,e)→Tr e g→hard (k+1+m)→E1 (k+1+m)=E2 (k+1+m):=fun m v e hm hd hh=>by
      have:=hA (m+1) v e (by simpa using hm) hd
      rw [show k+(m+1)=k+1+m by omega] at this
      exact this hh
    have hB':∀ m v' e',q[m]?=some (v',e')→Tr e' g→¬ hard (k+1+m)→∀ h',Hs (X7 h' e' g) (exH q (fun j=>decide (j<k+1+m)) (k+1) (X7 z e) g):=fun m v' e' hm hd hh h'=>by
      have:=hB (m+1) v' e' (by simpa using hm) hd
      rw [show k+(m+1)=k+1+m by omega] at this
      have:=this hh h'
      simp only [exH] at this
      rw [show decide (k<k+1+m)=true from decide_eq_true (by omega),cond_true] at this
      exact this
    have hC':∀ i j vi ei vj ej,i<j→q[i]?=some (vi,ei)→q[j]?=some (vj,ej)→Tr ei g→Tr ej g→hard (k+1+i)→E1 (k+1+i)=false→E1 (k+1+j)=false∧E2 (k+1+j)=false:=fun i j vi ei vj ej hij hi hj di dj hh h0=>by
      have:=hC (i+1) (j+1) vi ei vj ej (by omega) (by simpa using hi) (by simpa using hj) di dj
      rw [show k+(i+1)=k+1+i by omega,show k+(j+1)=k+1+j by omega] at this
      exact this hh h0
    simp only [exH]
    by_cases hd:Tr e g
    · by_cases hk:hard k
      · have e12:=hA 0 v e rfl hd (by rw [Nat.add_zero]; exact hk)
        rw [Nat.add_zero] at e12
        cases h1:E1 k with
        | true =>
          rw [← e12,h1,cond_true,cond_true]
          refine Iq hard q (k+1) _ _ (X7 z e) (.inl (Nf e _ _ (.inl hd))) (.inl (Nf e _ _ (.inl hd))) hA' hB' hC'
        | false =>
          rw [← e12,h1,cond_false,cond_false]
          have off:∀ m v' e',q[m]?=some (v',e')→Tr e' g→E1 (k+1+m)=false∧E2 (k+1+m)=false:=fun m v' e' hm hd'=>by
            have:=hC 0 (m+1) v e v' e' (by omega) rfl (by simpa using hm) hd hd' (by rw [Nat.add_zero]; exact hk) (by rw [Nat.add_zero]; exact h1)
            rw [show k+(m+1)=k+1+m by omega] at this
            exact this
          have n1:exH q E1 (k+1) x g=x g:=by
            rw [W9 (E2:=fun _=>false) q (k+1) x x rfl (fun m v' e' hm hne hd'=>hne ((off m v' e' hm hd').1)),Ts _ _ _ (fun _ _=>rfl)]
          have n2:exH q E2 (k+1) y g=y g:=by
            rw [W9 (E2:=fun _=>false) q (k+1) y y rfl (fun m v' e' hm hne hd'=>hne ((off m v' e' hm hd').2)),Ts _ _ _ (fun _ _=>rfl)]
          rw [n1,n2]
          exact hx.trans hy.symm
      · have hz:∀ h',Hs (X7 h' e g) (z g):=fun h'=>by
          have:=hB 0 v e rfl hd (by rw [Nat.add_zero]; exact hk) h'
          rw [Ts _ _ _ (fun m hm=>by simp; omega)] at this
          exact this
        have hz':Hs (z g) (X7 z e g):=(hz z).symm
        refine Iq hard q (k+1) _ _ (X7 z e) ?_ ?_ hA' hB' hC'
        · cases E1 k with
          | true=>exact (hz x).trans hz'
          | false=>exact hx.trans hz'
        · cases E2 k with
          | true=>exact (hz y).trans hz'
          | false=>exact hy.trans hz'
    · have hz:X7 z e g=z g:=Me hd
      refine Iq hard q (k+1) _ _ (X7 z e) ?_ ?_ hA' hB' hC'
      · rw [hz]
        cases E1 k with
        | true=>rw [cond_true,Me hd]; exact hx
        | false=>exact hx
      · rw [hz]
        cases E2 k with
        | true=>rw [cond_true,Me hd]; exact hy
        | false=>exact hy
theorem ALb (hd:Fp ops ls) (hr:Ran cf true ls s h q) {E:Nat→Bool} (hE:AB1 ops E) {i:Nat} {o:Oper} (ho:ops[i]?=some o) (hi:E i=false) (hre:∀ e,e∈o.after→Region.binds .any e=true→E e.on=true)
    {l:Ln} (hl:ls[i]?=some l) {E':Nat→Bool} (hE':∀ j,E' j=if j=i then true else E j) :
    ∃ v e,Va cf true l (exS ls q E 0 s) (exH q E 0 h) v e∧exS ls q E' 0 s=T7 (exS ls q E 0 s) l.d v∧exH q E' 0 h=X7 (exH q E 0 h) e:=by
  obtain ⟨r1,r2⟩:=AHe ls q 0 s h hr
  obtain ⟨v,e,hq,h1⟩:=r2 i l hl
  have dom:∀ (m:Nat) (v':SV) (e':Eff),q[m]?=some (v',e')→∃ y:Ln,ls[m]?=some y∧∀ g,Tr e' g→g∈y.wr:=fun m v' e' hm=>by
    have hlt:m<ls.length:=by rw [← r1]; exact (List.getElem?_eq_some_iff.1 hm).1
    obtain ⟨v2,e2,g1,g2⟩:=r2 m ls[m] (List.getElem?_eq_getElem hlt)
    rw [hm] at g1
    cases g1
    exact ⟨_,List.getElem?_eq_getElem hlt,g2.dom⟩
  have hdis:∀ (m:Nat) (y:Ln),ls[m]?=some y→E m≠decide (m<i)→C4 l y=true:=fun m y hm hne=>by
    have hmi:m≠i:=fun e=>by subst e; rw [hi] at hne; simp at hne
    exact AKf hd hE ho hi hre hl hm hmi hne
  refine ⟨v,e,?_,?_,?_⟩
  · have slots:∀ t,t∈Fo l→exS ls q (fun j=>decide (j<0+i)) 0 s t=exS ls q E 0 s t:=fun t ht=>Mn _ _ _ _ _ rfl (fun m y hm hne hdm=>by
      simp only [Nat.zero_add] at hne
      exact (Uu (hdis m y hm (Ne.symm hne))).1 t (AC5 hdm) ht)
    cases hlk:ANg l.op with
    | false =>
      refine h1.congr slots (fun g hg=>W9 _ _ _ _ rfl (fun m v' e' hm hne hdm => ?_))
      simp only [Nat.zero_add] at hne
      obtain ⟨y,hy,hw⟩:=dom m v' e' hm
      rcases (Uu (hdis m y hy (Ne.symm hne))).2.2.2 with hc | hc
      · exact hc g (hw g hdm) hg
      · rw [hlk] at hc; cases hc.1
    | true =>
      refine h1.congrLk hlk slots (fun g hg=>Hs.symm ?_)
      have hardA:∀ m v' e',q[m]?=some (v',e')→Tr e' g→(∃ y:Ln,ls[m]?=some y∧AA7 y.op=false)→E m=decide (m<i):=fun m v' e' hm hdm ⟨y,hy,hent⟩=>by
        by_cases hne:E m=decide (m<i)
        · exact hne
        · exfalso
          obtain ⟨y2,hy2,hw⟩:=dom m v' e' hm
          rw [hy] at hy2
          cases hy2
          rcases (Uu (hdis m y hy hne)).2.2.2 with hc | hc
          · exact hc g (hw g hdm) hg
          · rw [hent] at hc; cases hc.2
      refine Iq (fun m=>∃ y:Ln,ls[m]?=some y∧AA7 y.op=false) q 0 h h h (.refl _) (.refl _) (fun m v' e' hm hdm hh => ?_) (fun m v' e' hm hdm hh h' => ?_) (fun i1 j1 vi ei vj ej hij hi1 hj1 di dj hh h0 => ?_)
      · simp only [Nat.zero_add] at hh ⊢
        exact hardA m v' e' hm hdm hh
      · simp only [Nat.zero_add] at hh
        have hlt:m<ls.length:=by rw [← r1]; exact (List.getElem?_eq_some_iff.1 hm).1
        obtain ⟨v2,e2,g1,g2⟩:=r2 m ls[m] (List.getElem?_eq_getElem hlt)
        rw [hm] at g1
        cases g1
        refine Va.ent ?_ g2 hdm h'
        cases hent:AA7 (ls[m]).op with
        | true=>rfl
        | false=>exact absurd ⟨_,List.getElem?_eq_getElem hlt,hent⟩ hh
      · simp only [Nat.zero_add] at hh h0 ⊢
        have ha:=hardA i1 vi ei hi1 di hh
        rw [h0] at ha
        have hge:i≤i1:=by
          have:=of_decide_eq_false ha.symm
          omega
        refine ⟨?_,decide_eq_false (by omega)⟩
        cases hEj:E j1 with
        | false=>rfl
        | true =>
          exfalso
          obtain ⟨yi,hyi,hwi⟩:=dom i1 vi ei hi1
          obtain ⟨yj,hyj,hwj⟩:=dom j1 vj ej hj1
          have hsz:j1<ops.size:=by rw [← hd.len]; exact (List.getElem?_eq_some_iff.1 hyj).1
          rcases hd.pair i1 j1 yi yj hyi hyj hij with ht | ht
          · have:=Rd hd hE (j1+1) j1 (by omega) (o:=ops[j1]'hsz) (Array.getElem?_eq_getElem hsz) hEj ht
            rw [h0] at this; cases this
          · exact (Uu ht).2.2.1 g (hwi g di) (hwj g dj)
  · funext t
    unfold T7
    by_cases ht:l.d=some t
    · rw [if_pos ht]
      refine AEl (i:=i) ls q 0 i s hl hq (by rw [hE']; simp) ht (fun m' l' hm hl' hEm hdm => ?_)
      rw [hE',if_neg (by omega)] at hEm
      simp only [Nat.zero_add] at hEm
      exact (Uu (hdis m' l' hl' (by rw [hEm,decide_eq_false (by omega)]; simp))).2.1 t (AC5 ht) (AC5 hdm)
    · rw [if_neg ht]
      refine Mn _ _ _ _ _ rfl (fun m y hm hne hdm => ?_)
      simp only [Nat.zero_add] at hne
      rw [hE'] at hne
      by_cases hmi:m=i
      · subst hmi; rw [hl] at hm; cases hm; exact ht hdm
      · rw [if_neg hmi] at hne; exact hne rfl
  · funext g
    by_cases hg:Tr e g
    · refine AEk q 0 i h hq (by rw [hE']; simp) hg (fun m' v' e' hm hq' hEm hdm => ?_)
      rw [hE',if_neg (by omega)] at hEm
      simp only [Nat.zero_add] at hEm
      obtain ⟨y,hy,hw⟩:=dom m' v' e' hq'
      have:=(Uu (hdis m' y hy (by rw [hEm,decide_eq_false (by omega)]; simp))).2.2.1
      obtain ⟨y2,hy2,hw2⟩:=dom i v e hq
      rw [hl] at hy2
      cases hy2
      exact this g (hw2 g hg) (hw g hdm)
    · rw [Me hg]
      refine W9 _ _ _ _ rfl (fun m v' e' hm hne hdm => ?_)
      simp only [Nat.zero_add] at hne
      rw [hE'] at hne
      by_cases hmi:m=i
      · subst hmi; rw [hq] at hm; cases hm; exact hg hdm
      · rw [if_neg hmi] at hne; exact hne rfl
theorem Cj (hd:Fp ops ls) {listed:Array Bool} (hz:listed.size=ops.size) (hr:Region.ready .any ops listed=[]):∀ n j,j<n→j<ops.size→listed.getD j false=true
  | 0,j,hj,_=>by omega
  | n+1,j,hj,hsz=>by
    cases hx:listed.getD j false with
    | true=>rfl
    | false =>
      have:j∈Region.ready .any ops listed:=by
        rw [mem_ready]
        refine ⟨?_,ops[j],Array.getElem?_eq_getElem hsz,fun e he hb => ?_⟩
        · rw [Array.getD_eq_getD_getElem?,Array.getElem?_eq_getElem (by omega)] at hx ⊢
          simpa using hx
        · have:=(hd.bef j ops[j] (Array.getElem?_eq_getElem hsz)).2 e he hb
          exact Cj hd hz hr n e.on (by omega) (by omega)
      rw [hr] at this
      cases this
theorem ASk (hcf:Vw P cf) (hc:∀ (m:Nat) (l:Ln),ls[m]?=some l→∃ o,ops[m]?=some o∧Kw P N ops l o=true) (hd:Fp ops ls) (hr:Ran cf true ls s h q)
    (hQ:∀ a' w',Is N B w0 (C7 ls q s) (C6 q h) a' w'→Q .normal a' w'):(fuel:Nat)→(listed:Array Bool)→(a:Act)→(w:World)→listed.size=ops.size→AB1 ops (fun j=>listed.getD j false)→listed.toList.count false≤fuel →
    Is N B w0 (exS ls q (fun j=>listed.getD j false) 0 s) (exH q (fun j=>listed.getD j false) 0 h) a w→wpAny P .any ops Q fuel listed a w:=by
  obtain ⟨r1,_⟩:=AHe ls q 0 s h hr
  have done:∀ (listed:Array Bool) (a:Act) (w:World),listed.size=ops.size→Is N B w0 (exS ls q (fun j=>listed.getD j false) 0 s) (exH q (fun j=>listed.getD j false) 0 h) a w→Region.ready .any ops listed=[]→Q .normal a w:=fun listed a w hz hs hre=>by
    have hall:=fun j hj=>Cj hd hz hre (j+1) j (by omega) hj
    rw [AH7 ls q 0 s (fun m hm=>by rw [Nat.zero_add]; exact hall m (by rw [← hd.len,← r1]; exact hm)),AH6 q 0 h (fun m hm=>by rw [Nat.zero_add]; exact hall m (by rw [← hd.len,← r1]; exact hm))] at hs
    exact hQ a w hs
  intro fuel
  induction fuel with
  | zero =>
    intro listed a w hz hcl hct hs
    have h0:false ∉ listed.toList:=List.count_eq_zero.1 (by omega)
    have hre:Region.ready .any ops listed=[]:=by
      apply List.eq_nil_iff_forall_not_mem.2
      intro i hi
      rw [mem_ready] at hi
      obtain ⟨k1,o,ho,_⟩:=hi
      have hlt:i<listed.size:=by rw [hz]; exact (Array.getElem?_eq_some_iff.1 ho).1
      rw [Array.getD_eq_getD_getElem?,Array.getElem?_eq_getElem hlt] at k1
      simp at k1
      exact h0 (by rw [← k1]; simp)
    exact ⟨hre,done listed a w hz hs hre⟩
  | succ fuel ih =>
    intro listed a w hz hcl hct hs
    refine ⟨done listed a w hz hs,fun i hi => ?_⟩
    rw [mem_ready] at hi
    obtain ⟨k1,o,ho,k2⟩:=hi
    have hlt:i<listed.size:=by rw [hz]; exact (Array.getElem?_eq_some_iff.1 ho).1
    have k0:listed[i]=false:=by
      rw [Array.getD_eq_getD_getElem?,Array.getElem?_eq_getElem hlt] at k1
      simpa using k1
    have k3:listed.getD i false=false:=by
      rw [Array.getD_eq_getD_getElem?,Array.getElem?_eq_getElem hlt]; simpa using k0
    have hll:i<ls.length:=by rw [hd.len,← hz]; exact hlt
    have hl:=List.getElem?_eq_getElem hll
    obtain ⟨o',ho',hco⟩:=hc i _ hl
    rw [ho] at ho'
    cases ho'
    have hset:∀ j,(listed.setIfInBounds i true).getD j false=if j=i then true else listed.getD j false:=fun j=>by
      rw [Array.getD_eq_getD_getElem?,Array.getD_eq_getD_getElem?]
      by_cases hj:j=i
      · subst hj; simp [hlt]
      · rw [if_neg hj,Array.getElem?_setIfInBounds_ne (Ne.symm hj)]
    obtain ⟨v,e,m1,m2,m3⟩:=ALb hd hr hcl ho k3 k2 hl hset
    refine Rp ho hs hcf hco m1 (fun a' w' hs'=>ih _ a' w' (by simpa using hz) (fun j oj hj hEj e' he' hb' => ?_) ?_ ?_)
    · simp only [hset] at hEj ⊢
      by_cases hji:j=i
      · subst hji
        rw [ho] at hj
        cases hj
        split
        · rfl
        · exact k2 e' he' hb'
      · rw [if_neg hji] at hEj
        split
        · rfl
        · exact hcl j oj hj hEj e' he' hb'
    · rw [Array.toList_setIfInBounds,List.count_set (by simpa using hlt)]
      simp only [Array.getElem_toList,k0]
      have:0<listed.toList.count false:=List.count_pos_iff.2 (by rw [← k0]; simp)
      have e1:(false == false)=true:=rfl
      have e2:(true == false)=false:=rfl
      rw [e1,e2,if_pos rfl,if_neg (by simp)]
      omega
    · rw [m2,m3]; exact hs'
end
end Go.Proofs.YtjobjooccgledaaGreatDoor.Ghost
namespace Go.Proofs.YtjobjooccgledaaGreatDoor.Ghost
open Go
section
variable {A:Nat→Prop} {ρ ρ':Xf} {own own':Nat→Option Nat} {w:World} {B N:Nat} {w0:Y6} {p:Nat→Bool} {f:Nat→Nat}
theorem Xv.noRef {κ ν:Ty}:{l:List (den κ×den ν)}→{es:List MapEntry}→Xv A ρ w κ ν l es→Xv A ρ' w κ ν l es
  | [],_,h=>by simpa only [Xv] using h
  | (k,v) :: r,_,h=>by
    simp only [Xv] at h ⊢
    obtain ⟨e,es',h1,⟨c1,h2,h3⟩,⟨c2,h4,h5⟩,h6⟩:=h
    exact ⟨e,es',h1,⟨c1,Zm.noRef h2,h3⟩,⟨c2,Zm.noRef h4,h5⟩,Xv.noRef h6⟩
theorem AA2 {u:SV} {f:Nat→Nat} (h:u≠.junk):J6 f u≠.junk:=by cases u <;> simp_all [J6]
mutual
theorem F7 (f:Nat→Nat):(u:SV)→(p:Z8)→getV (J6 f u) p=(getV u p).map (J6 f)
  | u,[]=>by cases u <;> rfl
  | .agv vs,i :: p=>by
    simp only [J6,getV]
    exact Bj f vs i p
  | .dat _ _ _,_ :: _=>rfl
  | .ptr _ _,_ :: _=>rfl
  | .ref _ _,_ :: _=>rfl
  | .refv _,_ :: _=>rfl
  | .selfc _ _,_ :: _=>rfl
  | .glo _,_ :: _=>rfl
  | .elp _ _ _,_ :: _=>rfl
  | .clo _ _,_ :: _=>rfl
  | .tup _,_ :: _=>rfl
  | .slv _,_ :: _=>rfl
  | .fmap _ _,_ :: _=>rfl
  | .nilfn,_ :: _=>rfl
  | .und,_ :: _=>rfl
  | .junk,_ :: _=>rfl
theorem Bj (f:Nat→Nat):(us:List SV)→(i:Nat)→(p:Z8)→getV.getVL (V2 f us) i p=(getV.getVL us i p).map (J6 f)
  | [],_,_=>rfl
  | u :: r,0,p=>by simp only [V2,getV.getVL]; exact F7 f u p
  | u :: r,n+1,p=>by simp only [V2,getV.getVL]; exact Bj f r n p
end
mutual
theorem Eh (f:Nat→Nat):(u:SV)→(p:Z8)→Wp (J6 f u) p=Wp u p
  | .agv vs,i :: p=>by
    simp only [J6,Wp]
    exact B1 f vs i p
  | .agv vs,[]=>rfl
  | .dat _ _ _,_=>rfl
  | .ptr _ _,_=>rfl
  | .ref _ _,_=>rfl
  | .refv _,_=>rfl
  | .selfc _ _,_=>rfl
  | .glo _,_=>rfl
  | .elp _ _ _,_=>rfl
  | .clo _ _,_=>rfl
  | .tup _,_=>rfl
  | .slv _,_=>rfl
  | .fmap _ _,_=>rfl
  | .nilfn,_=>rfl
  | .und,_=>rfl
  | .junk,_=>rfl
theorem B1 (f:Nat→Nat):(us:List SV)→(i:Nat)→(p:Z8)→G2 (V2 f us) i p=G2 us i p
  | [],_,_=>rfl
  | u :: r,0,p=>by simp only [V2,G2]; exact Eh f u p
  | u :: r,n+1,p=>by simp only [V2,G2,Rq,B1 f r n p]
end
theorem Vn.names (hf:∀ g s,p g=true→ρ g=some s→ρ' (f g)=some s) {g g':Nat} (hg:ρ' g'=ρ g) (ho:∀ b,own b=some g→own' b=some g'):(o:Obj)→ADw p o=true→Vn A ρ own w g o→Vn A ρ' own' w g' (Ui f o)
  | .box τ x ov,hp,h=>by
    simp only [Vn,Tk,Ui] at h ⊢
    obtain ⟨s,cs,h1,h2,h3,h4,⟨m1,m2⟩,h5⟩:=h
    exact ⟨s,cs,by rw [hg]; exact h1,h2,h3,h4,⟨ho _ m1,m2⟩,Zm.names hf τ hp h5⟩
  | .boxv u,hp,h=>by
    simp only [Vn,Uy,Ui] at h ⊢
    obtain ⟨s,cs,h1,h2,h3,h4,h6,⟨m1,m2⟩,h5⟩:=h
    exact ⟨s,cs,by rw [hg]; exact h1,h2,by rw [h3]; funext q; rw [Eh],by rw [h4]; funext q; unfold okV; rw [F7]; cases getV u q <;> simp,AA2 h6,⟨ho _ m1,m2⟩,Zl.names hf u hp h5⟩
  | .fbox τ x ov,hp,h=>by
    simp only [Vn,Tk,Ui] at h ⊢
    obtain ⟨s,cs,h1,h2,h3,h4,m,h5⟩:=h
    exact ⟨s,cs,by rw [hg]; exact h1,h2,h3,h4,m,Zm.names hf τ hp h5⟩
  | .fboxv u,hp,h=>by
    simp only [Vn,Uy,Ui] at h ⊢
    obtain ⟨s,cs,h1,h2,h3,h4,h6,m,h5⟩:=h
    exact ⟨s,cs,by rw [hg]; exact h1,h2,by rw [h3]; funext q; rw [Eh],by rw [h4]; funext q; unfold okV; rw [F7]; cases getV u q <;> simp,AA2 h6,m,Zl.names hf u hp h5⟩
  | .arr e l,_,h=>by
    simp only [Vn,V4,Ui] at h ⊢
    obtain ⟨s,h1,h2,h3,h4,h5,h6,h7,h8,h9⟩:=h
    refine ⟨s,by rw [hg]; exact h1,h2,h3,h4,h5,h6,h7,h8,fun hc => ?_⟩
    obtain ⟨cs,k1,⟨m1,m2⟩,k2⟩:=h9 hc
    exact ⟨cs,k1,⟨ho _ m1,m2⟩,fun i hi=>Zm.noRef (k2 i hi)⟩
  | .frz e l,_,h=>by
    simp only [Vn,V4,Ui] at h ⊢
    obtain ⟨s,h1,h2,h3,h4,h5,h6,h7,h8,h9⟩:=h
    refine ⟨s,by rw [hg]; exact h1,h2,h3,h4,h5,h6,h7,h8,fun hc => ?_⟩
    obtain ⟨cs,k1,m,k2⟩:=h9 hc
    exact ⟨cs,k1,m,fun i hi=>Zm.noRef (k2 i hi)⟩
  | .map κ ν l,_,h=>by
    simp only [Vn,Ui] at h ⊢
    obtain ⟨s,es,c,h1,h2,h3,h4,h5,h6,h7⟩:=h
    exact ⟨s,es,c,by rw [hg]; exact h1,h2,ho _ h3,h4,h5,Xv.noRef h6,h7⟩
  | .hid,_,_=>trivial
  | .dead,_,_=>trivial
  | .none,_,h=>by simp only [Vn,Ui] at h ⊢; rw [hg]; exact h
theorem AG7 {o:Obj} (h:o≠.none):Ui f o≠.none:=by cases o <;> simp_all [Ui]
theorem St.rename {h h':Nat→Obj} (st:St B w0 A ρ own w h) (hf:∀ g s,p g=true→ρ g=some s→ρ' (f g)=some s)
    (hg:∀ g',(h' g'=.none∧ρ' g'=none)∨∃ g,ρ' g'=ρ g∧h' g'=Ui f (h g)∧ADw p (h g)=true∧∀ b,own b=some g→own' b=some g')
    (ho:∀ b g',own' b=some g'→∃ g,own b=some g):St B w0 A ρ' own' w h' where
  glob:=st.glob
  objs g':=by
    rcases hg g' with ⟨h1,h2⟩ | ⟨g,h1,h2,h3,h4⟩
    · rw [h1]; exact h2
    · rw [h2]; exact Vn.names hf h1 h4 _ h3 (st.objs g)
  apart b g' h1:=(ho b g' h1).elim fun g h2=>st.apart b g h2
  old:=st.old
  oldO b g' h1:=(ho b g' h1).elim fun g h2=>st.oldO b g h2
  base b g' h1:=(ho b g' h1).elim fun g h2=>st.base b g h2
  below:=st.below
  hB:=st.hB
  imm:=st.imm
  names g':=by
    rintro ⟨s,hs⟩
    rcases hg g' with ⟨h1,h2⟩ | ⟨g,h1,h2,h3,h4⟩
    · rw [h2] at hs; cases hs
    · rw [h2]
      exact AG7 (st.names g ⟨s,by rw [← h1]; exact hs⟩)
theorem AAh:{s:Xk}→M8 p s=true→∀ i,Up p (Xu s i)=true
  | [],_,i=>rfl
  | (j,v) :: r,h,i=>by
    simp only [M8,Bool.and_eq_true] at h
    simp only [Xu]
    cases Nat.beq j i with
    | true=>exact h.1
    | false=>exact AAh h.2 i
theorem Bi:(s:Xk)→(i:Nat)→Xu (AFl f s) i=J6 f (Xu s i)
  | [],i=>rfl
  | (j,v) :: r,i=>by
    simp only [AFl,Xu]
    cases Nat.beq j i with
    | true=>rfl
    | false=>exact Bi r i
theorem Lx {k:List Nat}:(s:Xk)→(i:Nat)→Xu (Le k s) i=Xu s i∨Xu (Le k s) i=.junk
  | [],i=>.inl rfl
  | (j,v) :: r,i=>by
    simp only [Le]
    cases hk:k.any (Nat.beq j) with
    | true =>
      simp only [Xu]
      cases hj:Nat.beq j i with
      | true =>
        have:=Nat.eq_of_beq_eq_true hj
        subst this
        right
        have:∀ r:Xk,Xu (Le k r) j=.junk:=fun r=>by
          induction r with
          | nil=>rfl
          | cons q r ih =>
            obtain ⟨j',v'⟩:=q
            simp only [Le]
            cases hk':k.any (Nat.beq j') with
            | true=>exact ih
            | false =>
              simp only [Xu]
              cases hb:Nat.beq j' j with
              | true=>rw [Nat.eq_of_beq_eq_true hb] at hk'; rw [hk] at hk'; cases hk'
              | false=>exact ih
        exact this r
      | false=>exact Lx r i
    | false =>
      simp only [Xu]
      cases Nat.beq j i with
      | true=>exact .inl rfl
      | false=>exact Lx r i
theorem Bh {F:Obj→Obj} (hF:F .none=.none):(h:Yj)→(g:Nat)→Xn (h.map F) g=F (Xn h g)
  | [],g=>by simp [Xn,hF]
  | o :: r,0=>rfl
  | o :: r,g+1=>by simp only [List.map_cons,Xn]; exact Bh hF r g
theorem AA1:(h:Yj)→(n g:Nat)→Xn (h.take n) g=if g<n then Xn h g else .none
  | [],n,g=>by simp [Xn]
  | o :: r,0,g=>by simp [Xn]
  | o :: r,n+1,0=>by simp [Xn]
  | o :: r,n+1,g+1=>by simp only [List.take_succ_cons,Xn,AA1 r n g,Nat.add_lt_add_iff_right]
theorem Pc:{h:Yj}→M7 p h=true→∀ g,ADw p (Xn h g)=true
  | [],_,g=>rfl
  | o :: r,h,0=>by
    simp only [M7,Bool.and_eq_true] at h
    exact h.1
  | o :: r,h,g+1=>by
    simp only [M7,Bool.and_eq_true] at h
    exact Pc h.2 g
theorem AFk (o:Obj):Ui id o=o:=by cases o <;> simp [Ui,Fc,Fb]
theorem ANw {n g:Nat} (h:neI n g=true):g≠n:=fun e=>by subst e; simp [neI] at h
theorem ADb {a b g:Nat}:AAe a b g=if g=a then b else g:=by
  unfold AAe
  cases h:Nat.beq g a with
  | true=>rw [if_pos (Nat.eq_of_beq_eq_true h)]
  | false=>rw [if_neg (Nat.ne_of_beq_eq_false h)]
theorem Bq {s s':Xk} {h h':Yj} {a:Act} {w:World} {ρ':Xf→Xf} {own':(Nat→Option Nat)→Nat→Option Nat} (hs:Is N B w0 (Xu s) (Xn h) a w) (ha:M8 p s=true)
    (hf:∀ (ρ:Xf) g s,p g=true→ρ g=some s→(ρ' ρ) (f g)=some s) (hs':∀ i,Xu s' i=J6 f (Xu s i))
    (hg:∀ (ρ:Xf) (own:Nat→Option Nat) g',(Xn h' g'=.none∧(ρ' ρ) g'=none)∨∃ g,(ρ' ρ) g'=ρ g∧Xn h' g'=Ui f (Xn h g)∧ADw p (Xn h g)=true∧∀ b,own b=some g→(own' own) b=some g')
    (ho:∀ (own:Nat→Option Nat) b g',(own' own) b=some g'→∃ g,own b=some g):Is N B w0 (Xu s') (Xn h') a w:=by
  obtain ⟨A,ρ,own,st,sl,sz,df⟩:=hs
  exact ⟨A,ρ' ρ,own' own,St.rename st (hf ρ) (hg ρ own) (ho own),fun i=>by rw [hs']; exact Zl.names (hf ρ) _ (AAh ha i) (sl i),sz,df⟩
theorem AQw {s:Xk} {h:Yj} {a:Act} {w:World} {g:Nat} (hs:Is N B w0 (Xu s) (Xn h) a w) (ha:M8 (neI g) s=true) (hh:M7 (neI g) h=true):Is N B w0 (Xu s) (Xn (R7 h g .none)) a w:=by
  refine Bq (p:=neI g) (f:=id) (ρ':=fun ρ i=>if i=g then none else ρ i) (own':=fun own b=>match own b with | some i=>if i=g then none else some i | none=>none) hs ha ?_ (fun i=>by rw [Fb]) ?_ ?_
  · intro ρ i s hi hρ
    simp only [id]
    rw [if_neg (ANw hi)]; exact hρ
  · intro ρ own i
    rw [Tb]
    by_cases hi:i=g
    · exact .inl ⟨if_pos hi,if_pos hi⟩
    · refine .inr ⟨i,if_neg hi,by rw [if_neg hi,AFk],Pc hh i,fun b hb => ?_⟩
      simp only [hb]; rw [if_neg hi]
  · intro own b i hb
    cases ho:own b with
    | none=>simp [ho] at hb
    | some j=>exact ⟨j,rfl⟩
theorem AE9 {s:Xk} {h:Yj} {a:Act} {w:World} {n:Nat} (hs:Is N B w0 (Xu s) (Xn h) a w) (ha:M8 (ltI n) s=true) (hh:M7 (ltI n) (h.take n)=true):Is N B w0 (Xu s) (Xn (h.take n)) a w:=by
  have hlt:∀ g,ltI n g=true↔g<n:=fun g=>by unfold ltI; rw [Nat.blt_eq]
  refine Bq (p:=ltI n) (f:=id) (ρ':=fun ρ i=>if i<n then ρ i else none) (own':=fun own b=>match own b with | some i=>if i<n then some i else none | none=>none) hs ha ?_ (fun i=>by rw [Fb]) ?_ ?_
  · intro ρ i s hi hρ
    simp only [id]
    rw [if_pos ((hlt i).1 hi)]; exact hρ
  · intro ρ own i
    have hg:=Pc hh i
    rw [AA1] at hg ⊢
    by_cases hi:i<n
    · rw [if_pos hi] at hg
      refine .inr ⟨i,if_pos hi,by rw [if_pos hi,AFk],hg,fun b hb => ?_⟩
      simp only [hb]; rw [if_pos hi]
    · exact .inl ⟨if_neg hi,if_neg hi⟩
  · intro own b i hb
    cases ho:own b with
    | none=>simp [ho] at hb
    | some j=>exact ⟨j,rfl⟩
theorem AQx {s:Xk} {h:Yj} {a:Act} {w:World} {x y:Nat} (hs:Is N B w0 (Xu s) (Xn h) a w) (ha:M8 (neI y) s=true) (hh:M7 (neI y) h=true) (hne:x≠y) :
    Is N B w0 (Xu (AFl (AAe x y) s)) (Xn (R7 (R7 (h.map (Ui (AAe x y))) y (Xn (h.map (Ui (AAe x y))) x)) x .none)) a w:=by
  refine Bq (p:=neI y) (f:=AAe x y) (ρ':=fun ρ i=>if i=x then none else if i=y then ρ x else ρ i) (own':=fun own b=>match own b with | some i=>if i=y then none else some (AAe x y i) | none=>none) hs ha ?_ (fun i=>Bi s i) ?_ ?_
  · intro ρ i s hi hρ
    have:=ANw hi
    rw [ADb]
    by_cases hix:i=x
    · subst hix
      rw [if_pos rfl,if_neg (Ne.symm hne),if_pos rfl]; exact hρ
    · rw [if_neg hix,if_neg hix,if_neg this]; exact hρ
  · intro ρ own i
    rw [Tb,Tb,Bh rfl,Bh rfl]
    by_cases hi:i=x
    · exact .inl ⟨if_pos hi,if_pos hi⟩
    · rw [if_neg hi,if_neg hi]
      by_cases hy:i=y
      · subst hy
        rw [if_pos rfl,if_pos rfl]
        refine .inr ⟨x,rfl,rfl,Pc hh x,fun b hb => ?_⟩
        simp only [hb]; rw [if_neg hne,ADb,if_pos rfl]
      · rw [if_neg hy,if_neg hy]
        refine .inr ⟨i,rfl,rfl,Pc hh i,fun b hb => ?_⟩
        simp only [hb]; rw [if_neg hy,ADb,if_neg hi]
  · intro own b i hb
    cases ho:own b with
    | none=>simp [ho] at hb
    | some j=>exact ⟨j,rfl⟩
theorem Wy {s:Xk} {h:Yj} {a:Act} {w:World} {k:List Nat} (hs:Is N B w0 (Xu s) (Xn h) a w):Is N B w0 (Xu (Le k s)) (Xn h) a w:=by
  obtain ⟨A,ρ,own,st,sl,sz,df⟩:=hs
  refine ⟨A,ρ,own,st,fun i => ?_,sz,df⟩
  rcases Lx (k:=k) s i with e | e
  · rw [e]; exact sl i
  · rw [e]; simp only [Zl]
section
variable {R:Type} {r:R} {K:Xk→Yj→Option R} {a:Act} {w:World}
theorem Ed:(mv:List (Nat×Nat))→{s:Xk}→{h:Yj}→Is N B w0 (Xu s) (Xn h) a w→L2 mv s h K=some r→∃ s' h',Is N B w0 (Xu s') (Xn h') a w∧K s' h'=some r
  | [],s,h,hs,hr=>⟨s,h,hs,hr⟩
  | (x,y) :: l,s,h,hs,hr=>by
    simp only [L2,ANv] at hr
    split at hr
    · exact Ed l hs hr
    · split at hr
      · rename_i hc
        simp only [Bool.and_eq_true,Bool.not_eq_true'] at hc
        exact Ed l (AQx hs hc.1.1 hc.1.2 (Nat.ne_of_beq_eq_false hc.2)) hr
      · cases hr
theorem F3:(l:List Nat)→{s:Xk}→{h:Yj}→Is N B w0 (Xu s) (Xn h) a w→Nq l s h K=some r→∃ s' h',Is N B w0 (Xu s') (Xn h') a w∧K s' h'=some r
  | [],s,h,hs,hr=>⟨s,h,hs,hr⟩
  | g :: l,s,h,hs,hr=>by
    simp only [Nq] at hr
    split at hr
    · exact F3 l hs hr
    · split at hr
      · rename_i hc
        simp only [Bool.and_eq_true] at hc
        exact F3 l (AQw hs hc.1 hc.2) hr
      · cases hr
theorem AKq {n:Option Nat} {s:Xk} {h:Yj} (hs:Is N B w0 (Xu s) (Xn h) a w) (hr:Ew n s h K=some r):∃ s' h',Is N B w0 (Xu s') (Xn h') a w∧K s' h'=some r:=by
  cases n with
  | none=>exact ⟨s,h,hs,hr⟩
  | some n =>
    simp only [Ew] at hr
    split at hr
    · rename_i hc
      simp only [Bool.and_eq_true] at hc
      exact ⟨s,_,AE9 hs hc.1 hc.2,hr⟩
    · cases hr
end
end
end Go.Proofs.YtjobjooccgledaaGreatDoor.Ghost
namespace Go.Proofs.YtjobjooccgledaaGreatDoor.Ghost
open Go
def Nl (P:Program) (N:Nat) (ops:Array Oper):List Ln→List Oper→Bool
  | [],[]=>true
  | l :: r,o :: s=>Kw P N ops l o && Nl P N ops r s
  | _,_=>false
def F9:Cd→Bool
  | .tidy _ _ _ _=>true
  | .frz _=>true
  | _=>false
def BHu (f g:Code→Bool):Code→Bool
  | .seq x y=>f x && g y
  | _=>false
def Ju (P:Program) (N:Nat):Cd→Code→Bool
  | .skip,.skip=>true
  | .reg d l,.region _ ops d'=>(d == d') && Nl P N ops l ops.toList && (bif d then ACb ops.toList l else true)
  | .seq a b,c=>bif F9 b then Ju P N a c else bif F9 a then Ju P N b c else BHu (Ju P N a) (Ju P N b) c
  | .cond c a b,.cond c' x y=>Xp c c' && Ju P N a x && Ju P N b y
  | .block i a,.block j x=>Nat.beq i j && Ju P N a x
  | .loop a,.loop x=>Ju P N a x
  | .exit i,.exit j=>Nat.beq i j
  | .ret,.ret=>true
  | _,_=>false
theorem Rc {P:Program} {N:Nat} {ops:Array Oper}:(l:List Ln)→(s:List Oper)→Nl P N ops l s=true→l.length=s.length∧∀ (m:Nat) (x:Ln),l[m]?=some x→∃ o,s[m]?=some o∧Kw P N ops x o=true
  | [],[],_=>⟨rfl,fun m x h=>by simp at h⟩
  | [],_ :: _,h=>by cases h
  | _ :: _,[],h=>by cases h
  | l :: r,o :: s,h=>by
    simp only [Nl,Bool.and_eq_true] at h
    obtain ⟨i1,i2⟩:=Rc r s h.2
    refine ⟨by simp [i1],fun m x hm => ?_⟩
    cases m with
    | zero=>simp at hm; subst hm; exact ⟨o,rfl,h.1⟩
    | succ m=>simpa using i2 m x (by simpa using hm)
def exQ:Ex→Exit
  | .norm=>.normal
  | .exit id=>.exit id
  | .ret=>.ret
section
variable {P:Program} {B N:Nat} {w0:Y6} {cf:Calls} {R:Type} {r:R}
def AKx (N B:Nat) (w0:Y6) (r:R) (K:Kt R) (e:Ex) (Q:Exit→Act→World→Prop):Prop:=∀ s h a w,K e s h=some r→Is N B w0 (Xu s) (Xn h) a w→Q (exQ e) a w
theorem ANk {s:Nat→SV} {h:Nat→Obj} {a:Act} {w:World} (hs:Is N B w0 s h a w):Is N B w0 s h a { w with drawn:=w.drawn+1 }:=by
  obtain ⟨A,ρ,own,st,sl,sz,df⟩:=hs
  have hl:X9 A ρ w A ρ { w with drawn:=w.drawn+1 }:=⟨fun _ h=>h,fun _ _ h=>h,fun _ _=>rfl⟩
  refine ⟨A,ρ,own,st.turn (fun _=>False) hl (fun _ _ _ _=>rfl) (fun _ _ h _=>h) (fun _ _ h=>h) (fun _ _=>rfl) (fun _ h=>h.elim) (fun _ h=>h.elim) st.apart st.old st.oldO st.base ⟨rfl,rfl,rfl,Nat.le_refl _,fun _ _=>rfl⟩ (fun _ h=>.inl h),fun i=>hl.repV (sl i),sz,df⟩
theorem AQ9 {c:Cd} (h:F9 c=true):(∃ k m d t,c=.tidy k m d t)∨∃ ids,c=.frz ids:=by
  cases c with
  | tidy k m d t=>exact .inl ⟨k,m,d,t,rfl⟩
  | frz ids=>exact .inr ⟨ids,rfl⟩
  | _=>cases h
theorem AKo {lp:Nat} {k:List Nat} {mv:List (Nat×Nat)} {d:List Nat} {t:Option Nat} {Kn K:Kt R} {s:Xk} {h:Yj} {a:Act} {w:World} (hs:Is N B w0 (Xu s) (Xn h) a w)
    (hr:run cf lp (.tidy k mv d t) Kn K s h=some r):∃ s' h',Is N B w0 (Xu s') (Xn h') a w∧Kn .norm s' h'=some r:=by
  simp only [run] at hr
  obtain ⟨s1,h1,k1,k2⟩:=Ed mv (Wy hs) hr
  obtain ⟨s2,h2,k3,k4⟩:=F3 d k1 k2
  exact AKq k3 k4
theorem AF9 {lp:Nat} {c:Cd} (hc:F9 c=true) {Kn K:Kt R} {s:Xk} {h:Yj} {a:Act} {w:World} (hs:Is N B w0 (Xu s) (Xn h) a w)
    (hr:run cf lp c Kn K s h=some r):∃ s' h',Is N B w0 (Xu s') (Xn h') a w∧Kn .norm s' h'=some r:=by
  rcases AQ9 hc with ⟨k,m,d,t,rfl⟩ | ⟨ids,rfl⟩
  · exact AKo hs hr
  · simp only [run] at hr
    split at hr
    · rename_i es hes
      obtain ⟨A,ρ,own,st,sl,sz,df⟩:=hs
      obtain ⟨st2,l2⟩:=St.freezeL st hes
      exact ⟨s,_,⟨_,ρ,_,by rw [Gz]; exact st2,fun i=>l2.repV (sl i),sz,df⟩,hr⟩
    · cases hr
theorem Y8 (hcf:Vw P cf) (hm:P.follows .mixedOrders=true) {lp:Nat}:(cd:Cd)→(c:Code)→Ju P N cd c=true→∀ {Kn K:Kt R} {Q:Exit→Act→World→Prop},AKx N B w0 r Kn .norm Q→(∀ e,e≠.norm→AKx N B w0 r K e Q) →
    ∀ {s:Xk} {h:Yj} {a:Act} {w:World},Is N B w0 (Xu s) (Xn h) a w→run cf lp cd Kn K s h=some r→c.wp P Q a w
  | .skip,c,hc,Kn,K,Q,hn,hk,s,h,a,w,hs,hr=>by
    cases c with
    | skip=>exact wp_skip (hn s h a w hr hs)
    | _=>simp [Ju] at hc
  | .reg d l,c,hc,Kn,K,Q,hn,hk,s,h,a,w,hs,hr=>by
    cases c with
    | region id ops d' =>
      simp only [Ju,Bool.and_eq_true,beq_iff_eq] at hc
      obtain ⟨⟨rfl,h1⟩,h2⟩:=hc
      obtain ⟨c1,c2⟩:=Rc l ops.toList h1
      have c2:∀ (m:Nat) (x:Ln),l[m]?=some x→∃ o,ops[m]?=some o∧Kw P N ops x o=true:=fun m x hx=>by
        obtain ⟨o,k1,k2⟩:=c2 m x hx
        exact ⟨o,by simpa using k1,k2⟩
      have c1:l.length=ops.size:=by simpa using c1
      simp only [run] at hr
      obtain ⟨q,s',h',q1,q2,q3,q4⟩:=Ox l hr
      have hQ:∀ a' w',Is N B w0 (C7 l q (Xu s)) (C6 q (Xn h)) a' w'→Q .normal a' w':=fun a' w' hs'=>by
        rw [← q3,← q4] at hs'
        exact hn s' h' a' w' q2 hs'
      cases d with
      | false =>
        refine wp_region ?_
        have:=ABr hcf l 0 (fun m x hx=>by rw [Nat.zero_add]; exact c2 m x hx) q1 hs hQ
        rw [c1] at this
        rw [List.range_eq_range']
        exact this
      | true =>
        refine wp_region_any hm ?_
        have hd:=AGl c1 h2
        have hfalse:∀ j,(Array.replicate ops.size false).getD j false=false:=fun j=>by
          rw [Array.getD_eq_getD_getElem?,Array.getElem?_replicate]
          split <;> rfl
        refine ASk hcf c2 hd q1 hQ ops.size _ a _ (by simp) (fun j o _ (hj:(Array.replicate ops.size false).getD j false=true)=>by rw [hfalse] at hj; cases hj) (by simp) ?_
        simp only [hfalse]
        rw [Ir _ _ _ _ (fun _ _=>rfl),Ts _ _ _ (fun _ _=>rfl)]
        exact ANk hs
    | _=>simp [Ju] at hc
  | .tidy _ _ _ _,c,hc,Kn,K,Q,hn,hk,s,h,a,w,hs,hr=>by cases c <;> simp [Ju] at hc
  | .frz _,c,hc,Kn,K,Q,hn,hk,s,h,a,w,hs,hr=>by cases c <;> simp [Ju] at hc
  | .seq x y,c,hc,Kn,K,Q,hn,hk,s,h,a,w,hs,hr=>by
    rw [Ju] at hc
    rw [run] at hr
    cases ty:F9 y with
    | true =>
      rw [ty,cond_true] at hc
      refine Y8 hcf hm x c hc (fun s h a w hr hs => ?_) hk hs hr
      obtain ⟨s',h',k1,k2⟩:=AF9 ty hs hr
      exact hn s' h' a w k2 k1
    | false =>
      rw [ty,cond_false] at hc
      cases tx:F9 x with
      | true =>
        rw [tx,cond_true] at hc
        obtain ⟨s',h',k1,k2⟩:=AF9 tx hs hr
        exact Y8 hcf hm y c hc hn hk k1 k2
      | false =>
        rw [tx,cond_false] at hc
        cases c with
        | seq c1 c2 =>
          simp only [BHu,Bool.and_eq_true] at hc
          refine wp_seq (Y8 hcf hm x c1 hc.1 (fun s h a w hr hs => ?_) (fun e he s h a w hr hs => ?_) hs hr)
          · exact Y8 hcf hm y c2 hc.2 hn hk hs hr
          · have:=hk e he s h a w hr hs
            cases e with
            | norm=>exact absurd rfl he
            | exit id=>exact this
            | ret=>exact this
        | _=>simp [BHu] at hc
  | .cond o x y,c,hc,Kn,K,Q,hn,hk,s,h,a,w,hs,hr=>by
    cases c with
    | cond o' c1 c2 =>
      simp only [Ju,Bool.and_eq_true] at hc
      rw [run] at hr
      split at hr
      · rename_i t ov ht
        have hb:a.eval o'=.bool t:=by
          obtain ⟨A,ρ,own,st,sl,sz,df⟩:=hs
          have:=X4 sl hc.1.1
          rw [ht] at this
          exact Jj this
        cases t with
        | true=>exact wp_cond_true hb (Y8 hcf hm x c1 hc.1.2 hn hk hs hr)
        | false=>exact wp_cond_false hb (Y8 hcf hm y c2 hc.2 hn hk hs hr)
      · cases hr
    | _=>simp [Ju] at hc
  | .block id x,c,hc,Kn,K,Q,hn,hk,s,h,a,w,hs,hr=>by
    cases c with
    | block j c1 =>
      simp only [Ju,Bool.and_eq_true] at hc
      obtain ⟨h1,h2⟩:=hc
      have:=Nat.eq_of_beq_eq_true h1
      subst this
      rw [run] at hr
      refine wp_block (Y8 hcf hm x c1 h2 (Kn:=Kn) (K:=Ja id Kn K) (Q:=Exit.inBlock id Q) (fun s h a w hr hs=>hn s h a w hr hs) (fun e he s h a w hr hs => ?_) hs hr)
      cases e with
      | norm=>exact absurd rfl he
      | exit i =>
        simp only [Ja] at hr
        simp only [exQ,Exit.inBlock]
        split at hr
        · rename_i hi
          rw [if_pos (Nat.eq_of_beq_eq_true hi)]
          exact hn s h a w hr hs
        · rename_i hi
          rw [if_neg (Nat.ne_of_beq_eq_false hi)]
          exact hk (.exit i) he s h a w hr hs
      | ret=>exact hk .ret he s h a w hr hs
    | _=>simp [Ju] at hc
  | .loop x,c,hc,Kn,K,Q,hn,hk,s,h,a,w,hs,hr=>by
    cases c with
    | loop c1 =>
      simp only [Ju] at hc
      rw [run] at hr
      have key:∀ (n:Nat) (s:Xk) (h:Yj) (a:Act) (w:World),Is N B w0 (Xu s) (Xn h) a w→Lf (fun Kn K s h=>run cf lp x Kn K s h) n K s h=some r→Code.rounds P c1 Q n a w:=by
        intro n
        induction n with
        | zero=>intro s h a w hs hr; simp [Lf] at hr
        | succ n ih =>
          intro s h a w hs hr
          rw [Lf] at hr
          rw [rounds_succ]
          refine Y8 hcf hm x c1 hc (fun s h a w hr hs=>ih s h a w hs hr) (fun e he s h a w hr hs => ?_) hs hr
          have:=hk e he s h a w hr hs
          cases e with
          | norm=>exact absurd rfl he
          | exit id=>exact this
          | ret=>exact this
      exact wp_loop_rounds lp (key lp s h a w hs hr)
    | _=>simp [Ju] at hc
  | .exit id,c,hc,Kn,K,Q,hn,hk,s,h,a,w,hs,hr=>by
    cases c with
    | exit j =>
      have:=Nat.eq_of_beq_eq_true (by simpa only [Ju] using hc:Nat.beq id j=true)
      subst this
      exact wp_exit (hk (.exit id) (by simp) s h a w hr hs)
    | _=>simp [Ju] at hc
  | .ret,c,hc,Kn,K,Q,hn,hk,s,h,a,w,hs,hr=>by
    cases c with
    | ret=>exact wp_ret (hk .ret (by simp) s h a w hr hs)
    | _=>simp [Ju] at hc
end
end Go.Proofs.YtjobjooccgledaaGreatDoor.Ghost
namespace Go.Proofs.YtjobjooccgledaaGreatDoor.Ghost
open Go
theorem AE8:{a b:List Int}→AA6 a b=true→a=b
  | [],[],_=>rfl
  | x :: r,y :: s,h=>by
    simp only [AA6,Bool.and_eq_true,beq_iff_eq] at h
    rw [h.1,AE8 h.2]
  | [],_ :: _,h=>by simp [AA6] at h
  | _ :: _,[],h=>by simp [AA6] at h
mutual
theorem AIn:(s:Sh)→(v:SV)→{x:dSh s}→prj s v=some x→v=inj s x
  | .d τ,.dat σ y [],x,h=>by
    simp only [prj] at h
    have:=X8 h
    cases this
    rfl
  | .ref τ,.ref σ y,x,h=>by
    simp only [prj] at h
    have:=X8 h
    cases this
    rfl
  | .refv s,.refv v,x,h=>by
    simp only [prj] at h
    simp only [inj,← AIn s v h]
  | .selfc f l,.selfc g vs,x,h=>by
    simp only [prj] at h
    split at h
    · rename_i hb
      rw [Nat.eq_of_beq_eq_true hb]
      simp only [inj,← Kk l vs h]
    · cases h
  | .clo f l,.clo g vs,x,h=>by
    simp only [prj] at h
    split at h
    · rename_i hb
      rw [Nat.eq_of_beq_eq_true hb]
      simp only [inj,← Kk l vs h]
    · cases h
  | .nilfn,.nilfn,x,h=>rfl
  | .agv l,.agv vs,x,h=>by
    simp only [prj] at h
    simp only [inj,← Kk l vs h]
  | .slv l,.slv vs,x,h=>by
    simp only [prj] at h
    simp only [inj,← Kk l vs h]
  | .fmap ks l,.fmap ks' vs,x,h=>by
    simp only [prj] at h
    split at h
    · rename_i hb
      rw [AE8 hb]
      simp only [inj,← Kk l vs h]
    · cases h
  | .d _,.dat _ _ (_ :: _),_,h=>by simp [prj] at h
  | .d _,.ptr _ _,_,h=>by simp [prj] at h
  | .d _,.ref _ _,_,h=>by simp [prj] at h
  | .d _,.refv _,_,h=>by simp [prj] at h
  | .d _,.selfc _ _,_,h=>by simp [prj] at h
  | .d _,.elp _ _ _,_,h=>by simp [prj] at h
  | .d _,.clo _ _,_,h=>by simp [prj] at h
  | .d _,.tup _,_,h=>by simp [prj] at h
  | .d _,.slv _,_,h=>by simp [prj] at h
  | .d _,.fmap _ _,_,h=>by simp [prj] at h
  | .d _,.agv _,_,h=>by simp [prj] at h
  | .d _,.nilfn,_,h=>by simp [prj] at h
  | .d _,.und,_,h=>by simp [prj] at h
  | .d _,.junk,_,h=>by simp [prj] at h
  | .d _,.glo _,_,h=>by simp [prj] at h
  | .ref _,.dat _ _ _,_,h=>by simp [prj] at h
  | .ref _,.ptr _ _,_,h=>by simp [prj] at h
  | .ref _,.refv _,_,h=>by simp [prj] at h
  | .ref _,.selfc _ _,_,h=>by simp [prj] at h
  | .ref _,.elp _ _ _,_,h=>by simp [prj] at h
  | .ref _,.clo _ _,_,h=>by simp [prj] at h
  | .ref _,.tup _,_,h=>by simp [prj] at h
  | .ref _,.slv _,_,h=>by simp [prj] at h
  | .ref _,.fmap _ _,_,h=>by simp [prj] at h
  | .ref _,.agv _,_,h=>by simp [prj] at h
  | .ref _,.nilfn,_,h=>by simp [prj] at h
  | .ref _,.und,_,h=>by simp [prj] at h
  | .ref _,.junk,_,h=>by simp [prj] at h
  | .ref _,.glo _,_,h=>by simp [prj] at h
  | .refv _,.dat _ _ _,_,h=>by simp [prj] at h
  | .refv _,.ptr _ _,_,h=>by simp [prj] at h
  | .refv _,.selfc _ _,_,h=>by simp [prj] at h
  | .refv _,.ref _ _,_,h=>by simp [prj] at h
  | .refv _,.elp _ _ _,_,h=>by simp [prj] at h
  | .refv _,.clo _ _,_,h=>by simp [prj] at h
  | .refv _,.tup _,_,h=>by simp [prj] at h
  | .refv _,.slv _,_,h=>by simp [prj] at h
  | .refv _,.fmap _ _,_,h=>by simp [prj] at h
  | .refv _,.agv _,_,h=>by simp [prj] at h
  | .refv _,.nilfn,_,h=>by simp [prj] at h
  | .refv _,.und,_,h=>by simp [prj] at h
  | .refv _,.junk,_,h=>by simp [prj] at h
  | .refv _,.glo _,_,h=>by simp [prj] at h
  | .selfc _ _,.dat _ _ _,_,h=>by simp [prj] at h
  | .selfc _ _,.ptr _ _,_,h=>by simp [prj] at h
  | .selfc _ _,.ref _ _,_,h=>by simp [prj] at h
  | .selfc _ _,.refv _,_,h=>by simp [prj] at h
  | .selfc _ _,.elp _ _ _,_,h=>by simp [prj] at h
  | .selfc _ _,.clo _ _,_,h=>by simp [prj] at h
  | .selfc _ _,.tup _,_,h=>by simp [prj] at h
  | .selfc _ _,.slv _,_,h=>by simp [prj] at h
  | .selfc _ _,.fmap _ _,_,h=>by simp [prj] at h
  | .selfc _ _,.agv _,_,h=>by simp [prj] at h
  | .selfc _ _,.nilfn,_,h=>by simp [prj] at h
  | .selfc _ _,.und,_,h=>by simp [prj] at h
  | .selfc _ _,.junk,_,h=>by simp [prj] at h
  | .selfc _ _,.glo _,_,h=>by simp [prj] at h
  | .clo _ _,.dat _ _ _,_,h=>by simp [prj] at h
  | .clo _ _,.ptr _ _,_,h=>by simp [prj] at h
  | .clo _ _,.ref _ _,_,h=>by simp [prj] at h
  | .clo _ _,.refv _,_,h=>by simp [prj] at h
  | .clo _ _,.selfc _ _,_,h=>by simp [prj] at h
  | .clo _ _,.elp _ _ _,_,h=>by simp [prj] at h
  | .clo _ _,.tup _,_,h=>by simp [prj] at h
  | .clo _ _,.slv _,_,h=>by simp [prj] at h
  | .clo _ _,.fmap _ _,_,h=>by simp [prj] at h
  | .clo _ _,.agv _,_,h=>by simp [prj] at h
  | .clo _ _,.nilfn,_,h=>by simp [prj] at h
  | .clo _ _,.und,_,h=>by simp [prj] at h
  | .clo _ _,.junk,_,h=>by simp [prj] at h
  | .clo _ _,.glo _,_,h=>by simp [prj] at h
  | .nilfn,.dat _ _ _,_,h=>by simp [prj] at h
  | .nilfn,.ptr _ _,_,h=>by simp [prj] at h
  | .nilfn,.ref _ _,_,h=>by simp [prj] at h
  | .nilfn,.refv _,_,h=>by simp [prj] at h
  | .nilfn,.selfc _ _,_,h=>by simp [prj] at h
  | .nilfn,.elp _ _ _,_,h=>by simp [prj] at h
  | .nilfn,.clo _ _,_,h=>by simp [prj] at h
  | .nilfn,.tup _,_,h=>by simp [prj] at h
  | .nilfn,.slv _,_,h=>by simp [prj] at h
  | .nilfn,.fmap _ _,_,h=>by simp [prj] at h
  | .nilfn,.agv _,_,h=>by simp [prj] at h
  | .nilfn,.und,_,h=>by simp [prj] at h
  | .nilfn,.junk,_,h=>by simp [prj] at h
  | .nilfn,.glo _,_,h=>by simp [prj] at h
  | .agv _,.dat _ _ _,_,h=>by simp [prj] at h
  | .agv _,.ptr _ _,_,h=>by simp [prj] at h
  | .agv _,.ref _ _,_,h=>by simp [prj] at h
  | .agv _,.refv _,_,h=>by simp [prj] at h
  | .agv _,.selfc _ _,_,h=>by simp [prj] at h
  | .agv _,.elp _ _ _,_,h=>by simp [prj] at h
  | .agv _,.clo _ _,_,h=>by simp [prj] at h
  | .agv _,.tup _,_,h=>by simp [prj] at h
  | .agv _,.slv _,_,h=>by simp [prj] at h
  | .agv _,.fmap _ _,_,h=>by simp [prj] at h
  | .agv _,.nilfn,_,h=>by simp [prj] at h
  | .agv _,.und,_,h=>by simp [prj] at h
  | .agv _,.junk,_,h=>by simp [prj] at h
  | .agv _,.glo _,_,h=>by simp [prj] at h
  | .slv _,.dat _ _ _,_,h=>by simp [prj] at h
  | .slv _,.ptr _ _,_,h=>by simp [prj] at h
  | .slv _,.ref _ _,_,h=>by simp [prj] at h
  | .slv _,.refv _,_,h=>by simp [prj] at h
  | .slv _,.selfc _ _,_,h=>by simp [prj] at h
  | .slv _,.elp _ _ _,_,h=>by simp [prj] at h
  | .slv _,.clo _ _,_,h=>by simp [prj] at h
  | .slv _,.tup _,_,h=>by simp [prj] at h
  | .slv _,.agv _,_,h=>by simp [prj] at h
  | .slv _,.nilfn,_,h=>by simp [prj] at h
  | .slv _,.und,_,h=>by simp [prj] at h
  | .slv _,.junk,_,h=>by simp [prj] at h
  | .slv _,.glo _,_,h=>by simp [prj] at h
  | .slv _,.fmap _ _,_,h=>by simp [prj] at h
  | .fmap _ _,.dat _ _ _,_,h=>by simp [prj] at h
  | .fmap _ _,.ptr _ _,_,h=>by simp [prj] at h
  | .fmap _ _,.ref _ _,_,h=>by simp [prj] at h
  | .fmap _ _,.refv _,_,h=>by simp [prj] at h
  | .fmap _ _,.selfc _ _,_,h=>by simp [prj] at h
  | .fmap _ _,.elp _ _ _,_,h=>by simp [prj] at h
  | .fmap _ _,.clo _ _,_,h=>by simp [prj] at h
  | .fmap _ _,.tup _,_,h=>by simp [prj] at h
  | .fmap _ _,.slv _,_,h=>by simp [prj] at h
  | .fmap _ _,.agv _,_,h=>by simp [prj] at h
  | .fmap _ _,.nilfn,_,h=>by simp [prj] at h
  | .fmap _ _,.und,_,h=>by simp [prj] at h
  | .fmap _ _,.junk,_,h=>by simp [prj] at h
  | .fmap _ _,.glo _,_,h=>by simp [prj] at h
theorem Kk:(l:List Sh)→(vs:List SV)→{x:Xc l}→Tz l vs=some x→vs=V5 l x
  | [],[],_,_=>rfl
  | s :: r,v :: vs,x,h=>by
    simp only [Tz] at h
    split at h
    · rename_i y hy
      split at h
      · rename_i z hz
        simp only [Option.some.injEq] at h
        subst h
        simp only [V5,← AIn s v hy,← Kk r vs hz]
      · cases h
    · cases h
  | [],_ :: _,_,h=>by simp [Tz] at h
  | _ :: _,[],_,h=>by simp [Tz] at h
end
theorem ADd:(fs:List Ty)→(i:Nat)→{t:Ty}→fs[i]?=some t→(p:Z8)→(x:K7 fs)→(d:Dyn)→∃ x0:den t,Gs fs i x=some ⟨t,x0⟩ ∧
    ((∀ y,setP t p x0 d=some y→∃ x',Ko fs i p x d=some x'∧Gs fs i x'=some ⟨t,y⟩)∧(setP t p x0 d=none→Ko fs i p x d=none))
  | [],_,_,h,_,_,_=>by simp at h
  | t :: r,0,t',h,p,x,d=>by
    simp at h
    subst h
    refine ⟨x.1,rfl,fun y hy => ?_,fun hn => ?_⟩
    · simp only [Ko,hy]
      exact ⟨_,rfl,rfl⟩
    · simp only [Ko,hn]
  | t :: r,i+1,t',h,p,x,d=>by
    obtain ⟨x0,h1,h2,h3⟩:=ADd r i (by simpa using h) p x.2 d
    refine ⟨x0,h1,fun y hy => ?_,fun hn => ?_⟩
    · obtain ⟨x',k1,k2⟩:=h2 y hy
      simp only [Ko,k1]
      exact ⟨_,rfl,k2⟩
    · simp only [Ko,h3 hn]
theorem Nw {e:Ty} {l:List (den e)}:(q:Z8)→(τ:Ty)→V8 q τ=true→{x x1:den τ}→setP τ q x ⟨.sl e,l⟩=some x1→getP q τ x1=some ⟨.sl e,l⟩
  | [],τ,_,x,x1,hs=>by
    have hc:Jc (.sl e) τ l=some x1:=by cases τ <;> simpa only [setP] using hs
    have:=X8 hc
    cases this
    rfl
  | i :: p,.st fs,hp,x,x1,hs=>by
    simp only [V8] at hp
    split at hp
    · rename_i t ht
      obtain ⟨x0,h1,h2,h3⟩:=ADd fs i ht p x ⟨.sl e,l⟩
      simp only [setP] at hs
      cases hy:setP t p x0 ⟨.sl e,l⟩ with
      | none=>rw [h3 hy] at hs; cases hs
      | some y =>
        obtain ⟨x',k1,k2⟩:=h2 y hy
        rw [k1] at hs
        cases hs
        simp only [getP,k2]
        exact Nw p t hp hy
    · cases hp
  | _ :: _,.bool,hp,_,_,_=>by simp [V8] at hp
  | _ :: _,.int _,hp,_,_,_=>by simp [V8] at hp
  | _ :: _,.str,hp,_,_,_=>by simp [V8] at hp
  | _ :: _,.sl _,hp,_,_,_=>by simp [V8] at hp
  | _ :: _,.arr _ _,hp,_,_,_=>by simp [V8] at hp
theorem Ru {e' e:Ty} {l':List (den e')} {l:List (den e)}:(q p:Z8)→(τ:Ty)→V8 q τ=true→{x x1:den τ}→setP τ p x ⟨.sl e',l'⟩=some x1→p≠q→getP q τ x=some ⟨.sl e,l⟩→getP q τ x1=some ⟨.sl e,l⟩
  | [],[],τ,_,x,x1,hs,hne,_=>absurd rfl hne
  | [],i :: p,τ,hq,x,x1,hs,_,_=>by
    cases τ with
    | sl t=>simp [setP] at hs
    | _=>simp [V8] at hq
  | j :: q,[],τ,hq,x,x1,hs,_,_=>by
    have hc:Jc (.sl e') τ l'=some x1:=by cases τ <;> simpa only [setP] using hs
    have:=X8 hc
    cases this
    simp [V8] at hq
  | j :: q,i :: p,.st fs,hq,x,x1,hs,hne,hg=>by
    simp only [setP] at hs
    simp only [getP] at hg ⊢
    by_cases hij:j=i
    · subst hij
      simp only [V8] at hq
      split at hq
      · rename_i t ht
        obtain ⟨x0,h1,h2,h3⟩:=ADd fs j ht p x ⟨.sl e',l'⟩
        rw [h1] at hg
        cases hy:setP t p x0 ⟨.sl e',l'⟩ with
        | none=>rw [h3 hy] at hs; cases hs
        | some y =>
          obtain ⟨x',k1,k2⟩:=h2 y hy
          rw [k1] at hs
          cases hs
          simp only [k2]
          exact Ru q p t hq hy (fun e=>hne (by rw [e])) hg
      · cases hq
    · rw [Oh fs i j p x x1 _ hs hij]
      exact hg
  | _ :: _,_ :: _,.bool,hp,_,_,_,_,_=>by simp [V8] at hp
  | _ :: _,_ :: _,.int _,hp,_,_,_,_,_=>by simp [V8] at hp
  | _ :: _,_ :: _,.str,hp,_,_,_,_,_=>by simp [V8] at hp
  | _ :: _,_ :: _,.sl _,hp,_,_,_,_,_=>by simp [V8] at hp
  | _ :: _,_ :: _,.arr _ _,hp,_,_,_,_,_=>by simp [V8] at hp
section
variable {h:Nat→Obj}
theorem Ou {e:Ty} {l:List (den e)} {τ:Ty} {q:Z8} (hq:V8 q τ=true):(ov:Ov)→{x y:den τ}→(∀ p o,(p,o)∈ov→p≠q)→Ghost.resolve h τ x ov=some y→getP q τ x=some ⟨.sl e,l⟩→getP q τ y=some ⟨.sl e,l⟩
  | [],x,y,_,hr,hg=>by
    simp only [Ghost.resolve,Option.some.injEq] at hr
    subst hr; exact hg
  | (_,none) :: _,_,_,_,hr,_=>by simp [Ghost.resolve] at hr
  | (p,some g) :: r,x,y,hn,hr,hg=>by
    simp only [Ghost.resolve] at hr
    split at hr
    · split at hr
      · rename_i x1 hx1
        exact Ou hq r (fun p o hm=>hn p o (by simp [hm])) hr (Ru q p τ hq hx1 (hn p (some g) (by simp)) hg)
      · cases hr
    · split at hr
      · rename_i x1 hx1
        exact Ou hq r (fun p o hm=>hn p o (by simp [hm])) hr (Ru q p τ hq hx1 (hn p (some g) (by simp)) hg)
      · cases hr
    · cases hr
theorem AFo {τ:Ty} {q:Z8} {o:Option Nat} {r:Ov} (hf:N6 τ ((q,o) :: r)=true):V8 q τ=true∧(∀ p o',(p,o')∈r→p≠q)∧N6 τ r=true:=by
  simp only [N6,Bool.and_eq_true,Bool.not_eq_true'] at hf
  refine ⟨hf.1.1,fun p o' hm e => ?_,hf.2⟩
  subst e
  have:=List.any_eq_false.1 hf.1.2 _ hm
  exact this (L5.2 rfl)
theorem AC7 {τ:Ty}:(ov:Ov)→{x y:den τ}→N6 τ ov=true→Ghost.resolve h τ x ov=some y→∀ q g,(q,g)∈Hp.ovOwn h ov→∃ e,∃ l:List (den e),h g=.arr e l∧getP q τ y=some ⟨.sl e,l⟩
  | [],_,_,_,_,q,g,hm=>by simp [Hp.ovOwn] at hm
  | (_,none) :: _,_,_,_,hr,_,_,_=>by simp [Ghost.resolve] at hr
  | (p,some g0) :: r,x,y,hf,hr,q,g,hm=>by
    obtain ⟨f1,f2,f3⟩:=AFo hf
    simp only [Ghost.resolve] at hr
    simp only [Hp.ovOwn] at hm
    cases hg0:h g0 with
    | arr e l =>
      rw [hg0] at hm hr
      simp only [] at hm hr
      split at hr
      · rename_i x1 hx1
        rcases List.mem_cons.1 hm with hm | hm
        · cases hm
          exact ⟨e,l,hg0,Ou f1 r f2 hr (Nw p τ f1 hx1)⟩
        · exact AC7 r f3 hr q g hm
      · cases hr
    | frz e l =>
      rw [hg0] at hm hr
      simp only [] at hm hr
      split at hr
      · exact AC7 r f3 hr q g hm
      · cases hr
    | _=>rw [hg0] at hr; cases hr
def Rw (h:Nat→Obj) (T:Nat→Bool):Ov→Ov
  | []=>[]
  | (q,some g) :: r=>(match h g with | .arr _ _=>(bif T g then (q,some g) :: Rw h T r else Rw h T r) | _=>Rw h T r)
  | (_,none) :: r=>Rw h T r
theorem Tv {T:Nat→Bool} {q:Z8} {og:Option Nat}:(ov:Ov)→((q,og)∈Rw h T ov↔∃ g,og=some g∧T g=true∧(q,g)∈Hp.ovOwn h ov)
  | []=>by simp [Rw,Hp.ovOwn]
  | (_,none) :: r=>by simp only [Rw,Hp.ovOwn]; exact Tv r
  | (p,some g0) :: r=>by
    simp only [Rw,Hp.ovOwn]
    cases hg0:h g0 with
    | arr e l =>
      simp only []
      cases hT:T g0 with
      | true =>
        simp only [cond_true,List.mem_cons,Tv r]
        constructor
        · rintro (e1 | ⟨g,e1,e2,e3⟩)
          · cases e1; exact ⟨g0,rfl,hT,.inl rfl⟩
          · exact ⟨g,e1,e2,.inr e3⟩
        · rintro ⟨g,e1,e2,e3 | e3⟩
          · cases e3; subst e1; exact .inl rfl
          · exact .inr ⟨g,e1,e2,e3⟩
      | false =>
        simp only [cond_false,List.mem_cons,Tv r]
        constructor
        · rintro ⟨g,e1,e2,e3⟩; exact ⟨g,e1,e2,.inr e3⟩
        · rintro ⟨g,e1,e2,e3 | e3⟩
          · cases e3; rw [hT] at e2; cases e2
          · exact ⟨g,e1,e2,e3⟩
    | _=>simp only []; exact Tv r
end
section
variable {A Aw:Nat→Prop} {ρ:Xf} {own:Nat→Option Nat} {w:World} {h:Nat→Obj} {T:Nat→Bool}
theorem Wz (hA:∀ b,A b→Aw b) (hT:∀ g b,T g=false→own b=some g→Aw b) (hO:∀ g,Vn A ρ own w g (h g)) {τ:Ty}:(ov ks:Ov)→{x y:den τ}→{cs:List Value}→Zm Aw ρ w τ x (ov ++ ks) cs→Ghost.resolve h τ x ov=some y→Zm Aw ρ w τ y (Rw h T ov ++ ks) cs
  | [],ks,x,y,cs,hr,he=>by
    simp only [Ghost.resolve,Option.some.injEq] at he
    subst he
    exact hr
  | (_,none) :: _,_,_,_,_,_,he=>by simp [Ghost.resolve] at he
  | (q,some g) :: r,ks,x,y,cs,hr,he=>by
    have ob:=hO g
    simp only [Ghost.resolve] at he
    simp only [Rw]
    cases hg:h g with
    | arr e l =>
      rw [hg] at ob he
      simp only [] at he ⊢
      split at he
      · rename_i x1 hx1
        cases ht:T g with
        | true =>
          simp only [cond_true]
          have h1:=Zm.setOwn τ q hr ⟨g,by simp⟩ hx1
          have h2:=Wz hA hT hO r ((q,some g) :: ks) (Zm.ov τ (fun e=>by simp only [List.cons_append,List.mem_cons,List.mem_append]; constructor <;> rintro (h | h | h) <;> simp [h]) h1) he
          exact Zm.ov τ (fun e=>by simp only [List.cons_append,List.mem_cons,List.mem_append]; constructor <;> rintro (h | h | h) <;> simp [h]) h2
        | false =>
          simp only [cond_false]
          exact Wz hA hT hO r ks (Zm.res1 (V4.plain hA (fun s cs hm=>⟨hT g _ ht hm.1,hm.2.1⟩) ob) τ q hr hx1 (fun ee=>by simp)) he
      · cases he
    | frz e l =>
      rw [hg] at ob he
      simp only [] at he ⊢
      split at he
      · rename_i x1 hx1
        exact Wz hA hT hO r ks (Zm.res1 (V4.plain hA (fun s cs hm=>⟨hA _ hm.1,hm.2⟩) ob) τ q hr hx1 (fun ee=>by simp)) he
      · cases he
    | _=>rw [hg] at he; cases he
theorem ABt (hA:∀ b,A b→Aw b) (hT:∀ g b,T g=false→own b=some g→Aw b) (hO:∀ g,Vn A ρ own w g (h g)) {v u:SV} {val:Value} {o:List (Z8×Nat)} {ls:List Nat} (hr:Hp.resFin h v=some (u,o,ls)) (hl:∀ g,g∈ls→T g=false) (hv:Zl A ρ w v val) :
    (∃ τ x,u=.dat τ x []∧(∀ q g,(q,g)∈o→∃ e,∃ l:List (den e),h g=.arr e l∧getP q τ x=some ⟨.sl e,l⟩)∧∃ cs,val=mkV τ cs∧∀ ov:Ov,(∀ q og,(q,og)∈ov↔∃ g,og=some g∧T g=true∧(q,g)∈o)→Zm Aw ρ w τ x ov cs) ∨
      (Wu u=false∧o=[]∧Zl Aw ρ w u val):=by
  have hlend:∀ v' u',v=v'→Wu u'=false→Y0 h 60 v=some (u',ls)→u=u'→o=[]→(Wu u=false∧o=[]∧Zl Aw ρ w u val):=fun v' u' e1 e2 e3 e4 e5=>by
    subst e4
    exact ⟨e2,e5,I8 hA hO 60 v e3 (fun g hg b hb=>hT g b (hl g hg) hb) hv⟩
  have hnd:∀ (n:Nat) (v:SV) (u:SV) (ids:List Nat),Wu v=false→Y0 h n v=some (u,ids)→Wu u=false:=fun n v u ids hd he=>by
    cases n with
    | zero=>simp [Y0] at he
    | succ n =>
      cases v with
      | dat _ _ _=>cases hd
      | ptr g p =>
        simp only [Y0] at he
        split at he
        · split at he
          · split at he
            · simp only [Option.some.injEq,Prod.mk.injEq] at he; rw [← he.1]; rfl
            · cases he
          · cases he
        · split at he
          · split at he
            · simp only [Option.some.injEq,Prod.mk.injEq] at he; rw [← he.1]; rfl
            · cases he
          · cases he
        · split at he
          · split at he
            · simp only [Option.some.injEq,Prod.mk.injEq] at he; rw [← he.1]; rfl
            · cases he
          · split at he
            · split at he
              · simp only [Option.some.injEq,Prod.mk.injEq] at he; rw [← he.1]; rfl
              · cases he
            · cases he
        · split at he
          · split at he
            · simp only [Option.some.injEq,Prod.mk.injEq] at he; rw [← he.1]; rfl
            · cases he
          · split at he
            · split at he
              · simp only [Option.some.injEq,Prod.mk.injEq] at he; rw [← he.1]; rfl
              · cases he
            · cases he
        · cases he
      | ref τ x=>simp only [Y0,Option.some.injEq,Prod.mk.injEq] at he; rw [← he.1]; rfl
      | refv v =>
        simp only [Y0] at he
        split at he
        · simp only [Option.some.injEq,Prod.mk.injEq] at he; rw [← he.1]; rfl
        · cases he
      | selfc f caps =>
        simp only [Y0] at he
        split at he
        · simp only [Option.some.injEq,Prod.mk.injEq] at he; rw [← he.1]; rfl
        · cases he
      | elp g i p=>simp [Y0] at he
      | glo k=>simp [Y0] at he
      | clo f caps =>
        simp only [Y0] at he
        split at he
        · simp only [Option.some.injEq,Prod.mk.injEq] at he; rw [← he.1]; rfl
        · cases he
      | tup vs=>simp [Y0] at he
      | fmap ks vs=>simp [Y0] at he
      | slv vs =>
        simp only [Y0] at he
        split at he
        · simp only [Option.some.injEq,Prod.mk.injEq] at he; rw [← he.1]; rfl
        · cases he
      | agv vs =>
        simp only [Y0] at he
        split at he
        · simp only [Option.some.injEq,Prod.mk.injEq] at he; rw [← he.1]; rfl
        · cases he
      | nilfn=>simp only [Y0,Option.some.injEq,Prod.mk.injEq] at he; rw [← he.1]; rfl
      | und=>simp [Y0] at he
      | junk=>simp [Y0] at he
  have other:Wu v=false→(match Y0 h 60 v with | some (u,ids)=>some (u,([]:List (Z8×Nat)),ids) | none=>none)=some (u,o,ls)→(Wu u=false∧o=[]∧Zl Aw ρ w u val):=fun hd hh=>by
    split at hh
    · rename_i u' ids he
      simp only [Option.some.injEq,Prod.mk.injEq] at hh
      obtain ⟨rfl,rfl,rfl⟩:=hh
      exact hlend v u' rfl (hnd 60 v u' ids hd he) he rfl rfl
    · cases hh
  cases v with
  | dat τ x ov =>
    left
    unfold Hp.resFin at hr
    simp only [] at hr
    simp only [Zl] at hv
    obtain ⟨cs,h1,h2⟩:=hv
    split at hr
    · rename_i y hy
      have hk:=Wz (T:=T) hA hT hO ov [] (by rw [List.append_nil]; exact Zm.wide hA h1) hy
      rw [List.append_nil] at hk
      split at hr
      · rename_i hf
        simp only [Option.some.injEq,Prod.mk.injEq] at hr
        obtain ⟨rfl,rfl,rfl⟩:=hr
        exact ⟨τ,y,rfl,AC7 ov hf hy,cs,h2,fun ov' hov=>Zm.ov τ (fun ⟨q,og⟩=>by rw [Tv,hov]) hk⟩
      · simp only [Option.some.injEq,Prod.mk.injEq] at hr
        obtain ⟨rfl,rfl,rfl⟩:=hr
        refine ⟨τ,y,rfl,(fun q g hm=>by cases hm),cs,h2,fun ov' hov=>Zm.ov τ (fun ⟨q,og⟩ => ?_) (Uk hA hO ov (fun g hg b hb=>hT g b (hl g hg) hb) (Zm.wide hA h1) hy)⟩
        rw [hov]
        simp
    · cases hr
  | _=>exact .inr (other rfl hr)
end
end Go.Proofs.YtjobjooccgledaaGreatDoor.Ghost
namespace Go.Proofs.YtjobjooccgledaaGreatDoor.Ghost
open Go
def AH0 (P:Program):RV→ResultVar→Bool
  | .tmp t,.tmp t'=>Nat.beq t t'
  | .cell t l,.cell t' T=>Nat.beq t t' && AC1 P l T
  | _,_=>false
def Rs (P:Program):List RV→List ResultVar→Bool
  | [],[]=>true
  | x :: r,y :: s=>AH0 P x y && Rs P r s
  | _,_=>false
def AHi (tmps:Array Value):ResultVar→Sem Value
  | .tmp t=>pure (tmps.getD t undef)
  | .cell a t=>do loadVar t (← asAddr (tmps.getD a undef))
theorem ABu {P:Program} {w:World} {α:Type} {f:α→Sem Value}:(l:List α)→(vs:List Value)→vs.length=l.length→(∀ (j:Nat) (x:α),l[j]?=some x→∃ v,vs[j]?=some v∧(f x).run P w=.ok v w)→(l.mapM f).run P w=.ok vs w
  | [],[],_,_=>by simp only [List.mapM_nil,Sem.run_pure]
  | x :: r,v :: vs,hl,hv=>by
    obtain ⟨v',k1,k2⟩:=hv 0 x rfl
    simp at k1
    subst k1
    have ih:=ABu r vs (by simpa using hl) (fun j x hj=>by simpa using hv (j+1) x (by simpa using hj))
    simp only [List.mapM_cons,Sem.run_bind,k2,ih,Result.andThen_ok,Sem.run_pure]
  | [],_ :: _,hl,_=>by simp at hl
  | _ :: _,[],hl,_=>by simp at hl
theorem AN2 {P:Program} {w:World} {α:Type} {f:α→Sem Value} {as:Array α} {vs:List Value} (hz:vs.length=as.size) (hv:∀ (j:Nat) (hj:j<as.size),∃ v,vs[j]?=some v∧(f as[j]).run P w=.ok v w) :
    (as.mapM f).run P w=.ok vs.toArray w:=by
  have h:=ABu (P:=P) (w:=w) (f:=f) as.toList vs (by simpa using hz) (fun j x hj=>by
    have hlt:j<as.size:=by simpa using (List.getElem?_eq_some_iff.1 hj).1
    obtain ⟨v,k1,k2⟩:=hv j hlt
    have:x=as[j]:=by
      have h2:as[j]?=some x:=by simpa using hj
      rw [Array.getElem?_eq_getElem hlt] at h2
      cases h2; rfl
    subst this
    exact ⟨v,k1,k2⟩)
  rw [Array.mapM_eq_mapM_toList,map_eq_pure_bind,Sem.run_bind,h,Result.andThen_ok,Sem.run_pure]
theorem G6 {P:Program} {w:World} {fn:Func} {tmps:Array Value} {vs:List Value} (hz:vs.length=fn.results.size) (hv:∀ (j:Nat) (hj:j<fn.results.size),∃ v,vs[j]?=some v∧(AHi tmps fn.results[j]).run P w=.ok v w) :
    (results fn tmps).run P w=.ok (Je vs) w:=by
  have h1:(fn.results.mapM (AHi tmps)).run P w=.ok vs.toArray w:=AN2 hz hv
  have h2:results fn tmps=(do let vs ← fn.results.mapM (AHi tmps); pure (if h:vs.size=1 then vs[0] else .tuple vs)):=by
    unfold results
    congr 2
  rw [h2,Sem.run_bind,h1,Result.andThen_ok,Sem.run_pure]
  match vs with
  | []=>rfl
  | [v]=>rfl
  | v :: u :: r=>rfl
section
variable {P:Program} {B N:Nat} {w0:Y6} {A Aw:Nat→Prop} {ρ:Xf} {own:Nat→Option Nat} {w:World} {h:Nat→Obj} {s:Nat→SV} {T:Nat→Bool} {a:Act}
theorem AKh (hA:∀ b,A b→Aw b) (hT:∀ g b,T g=false→own b=some g→Aw b) (st:St B w0 A ρ own w h) (sl:Xh A ρ w s a) {r:RV} {r':ResultVar} (hc:AH0 P r r'=true) {u:SV} {o:List (Z8×Nat)} {ls:List Nat}
    (hr:Hp s h r=some (u,o,ls)) (hl:∀ g,g∈ls→T g=false):∃ val,(AHi a.tmps r').run P w=.ok val w ∧
    ((∃ τ x,u=.dat τ x []∧(∀ q g,(q,g)∈o→∃ e,∃ l:List (den e),h g=.arr e l∧getP q τ x=some ⟨.sl e,l⟩)∧∃ cs,val=mkV τ cs∧∀ ov:Ov,(∀ q og,(q,og)∈ov↔∃ g,og=some g∧T g=true∧(q,g)∈o)→Zm Aw ρ w τ x ov cs) ∨
      (Wu u=false∧o=[]∧Zl Aw ρ w u val)):=by
  cases r with
  | tmp t =>
    cases r' with
    | tmp t' =>
      have:=Nat.eq_of_beq_eq_true (by simpa only [AH0] using hc:Nat.beq t t'=true)
      subst this
      exact ⟨a.tmps.getD t undef,by simp only [AHi,Sem.run_pure],ABt hA hT st.objs hr hl (sl t)⟩
    | cell _ _=>cases hc
  | cell t l =>
    cases r' with
    | tmp _=>cases hc
    | cell t' ty =>
      simp only [AH0,Bool.and_eq_true] at hc
      have:=Nat.eq_of_beq_eq_true hc.1
      subst this
      simp only [Hp] at hr
      obtain ⟨v,v',h1,h2,⟨b,k,h3⟩,h4⟩:=AFf st hc.2 (sl t) hr
      have h5:a.tmps.getD t undef=.pointer (some ⟨b,k,none⟩):=h3
      refine ⟨v',?_,ABt hA hT st.objs h1 hl h2⟩
      rw [h3] at h4
      simp only [AHi,h5]
      simpa [Instr.loadAt,Instr.sureAddr,asAddr] using h4
theorem Ad:(rs:List RV)→(i:Nat)→{vs:List SV}→{os:Vm}→{ls:List Nat}→resAll s h i rs=some (vs,os,ls)→∀ q,q∈os→i≤q.1.1
  | [],i,vs,os,ls,hr,q,hq=>by
    simp only [resAll,Option.some.injEq,Prod.mk.injEq] at hr
    rw [← hr.2.1] at hq
    cases hq
  | r :: rs,i,vs,os,ls,hr,q,hq=>by
    simp only [resAll] at hr
    split at hr
    · rename_i v o l h1
      split at hr
      · rename_i vs1 os1 ls1 h2
        simp only [Option.some.injEq,Prod.mk.injEq] at hr
        obtain ⟨_,rfl,_⟩:=hr
        rcases List.mem_append.1 hq with hq | hq
        · obtain ⟨p,hp,rfl⟩:=List.mem_map.1 hq
          exact Nat.le_refl i
        · have:=Ad rs (i+1) h2 q hq
          omega
      · cases hr
    · cases hr
theorem ABs (hA:∀ b,A b→Aw b) (hT:∀ g b,T g=false→own b=some g→Aw b) (st:St B w0 A ρ own w h) (sl:Xh A ρ w s a) {o:Vm}:(rs:List RV)→(rs':List ResultVar)→(i:Nat)→{vs:List SV}→{os:Vm}→{ls:List Nat}→Rs P rs rs'=true →
    resAll s h i rs=some (vs,os,ls)→(∀ g,g∈ls→T g=false)→(∀ j p g,i≤j→(((j,p),g)∈o↔((j,p),g)∈os∧T g=true)) →
    ∃ vals,vals.length=rs'.length∧(∀ (j:Nat) (r:ResultVar),rs'[j]?=some r→∃ v,vals[j]?=some v∧(AHi a.tmps r).run P w=.ok v w)∧Zs Aw ρ w (J9 o i vs) vals ∧
      ∀ q,q∈os→∃ τ x e,∃ l:List (den e),vs[q.1.1 - i]?=some (.dat τ x [])∧getP q.1.2 τ x=some ⟨.sl e,l⟩∧h q.2=.arr e l
  | [],[],i,vs,os,ls,_,hr,_,_=>by
    simp only [resAll,Option.some.injEq,Prod.mk.injEq] at hr
    obtain ⟨rfl,rfl,rfl⟩:=hr
    exact ⟨[],rfl,fun j r hj=>by simp at hj,by simp only [J9,Zs],fun q hq=>by cases hq⟩
  | [],_ :: _,_,_,_,_,hc,_,_,_=>by cases hc
  | _ :: _,[],_,_,_,_,hc,_,_,_=>by cases hc
  | r :: rs,r' :: rs',i,vs,os,ls,hc,hr,hl,ho=>by
    simp only [Rs,Bool.and_eq_true] at hc
    simp only [resAll] at hr
    split at hr
    · rename_i u o1 l1 h1
      split at hr
      · rename_i vs1 os1 ls1 h2
        simp only [Option.some.injEq,Prod.mk.injEq] at hr
        obtain ⟨rfl,rfl,rfl⟩:=hr
        obtain ⟨val,k1,k2⟩:=AKh hA hT st sl hc.1 h1 (fun g hg=>hl g (by simp [hg]))
        have hidx:=Ad rs (i+1) h2
        obtain ⟨vals,m1,m2,m3,m4⟩:=ABs hA hT st sl (o:=o) rs rs' (i+1) hc.2 h2 (fun g hg=>hl g (by simp [hg])) (fun j p g hj=>by
          rw [ho j p g (by omega)]
          simp only [List.mem_append,List.mem_map,Prod.mk.injEq]
          constructor
          · rintro ⟨⟨q,_,⟨e,_⟩,_⟩ | h,ht⟩
            · omega
            · exact ⟨h,ht⟩
          · rintro ⟨h,ht⟩; exact ⟨.inr h,ht⟩)
        have hov:∀ q og,(q,og)∈Pr o i↔∃ g,og=some g∧T g=true∧(q,g)∈o1:=fun q og=>by
          rw [N2]
          constructor
          · rintro ⟨g,e,hm⟩
            obtain ⟨hm,ht⟩:=(ho i q g (Nat.le_refl i)).1 hm
            rcases List.mem_append.1 hm with hm | hm
            · obtain ⟨p,hp,e2⟩:=List.mem_map.1 hm
              cases e2
              exact ⟨_,e,ht,hp⟩
            · have:=hidx _ hm
              simp only [] at this
              omega
          · rintro ⟨g,e,ht,hm⟩
            exact ⟨g,e,(ho i q g (Nat.le_refl i)).2 ⟨List.mem_append_left _ (List.mem_map.2 ⟨(q,g),hm,rfl⟩),ht⟩⟩
        refine ⟨val :: vals,by simp [m1],fun j r hj => ?_,?_,fun q hq => ?_⟩
        · cases j with
          | zero=>simp at hj; subst hj; exact ⟨val,rfl,k1⟩
          | succ j=>simpa using m2 j r (by simpa using hj)
        · rw [Jq]
          simp only [Zs]
          refine ⟨val,vals,rfl,?_,m3⟩
          rcases k2 with ⟨τ,x,rfl,_,cs,e,hcs⟩ | ⟨hd,_,hv⟩
          · simp only [Rv,Zl]
            exact ⟨cs,hcs _ hov,e⟩
          · rw [Mr hd]; exact hv
        · rcases List.mem_append.1 hq with hq | hq
          · obtain ⟨⟨p,g⟩,hp,rfl⟩:=List.mem_map.1 hq
            rcases k2 with ⟨τ,x,rfl,hg,_⟩ | ⟨_,rfl,_⟩
            · obtain ⟨e,l,g1,g2⟩:=hg p g hp
              exact ⟨τ,x,e,l,by simp,g2,g1⟩
            · cases hp
          · obtain ⟨τ,x,e,l,g1,g2,g3⟩:=m4 q hq
            have:=hidx q hq
            refine ⟨τ,x,e,l,?_,g2,g3⟩
            rw [show q.1.1 - i=(q.1.1 - (i+1))+1 by omega]
            simpa using g1
      · cases hr
    · cases hr
theorem Lg:(o:Vm)→Pq o=true→(o.map (·.2)).Nodup
  | [],_=>by simp
  | (k,g) :: r,h=>by
    simp only [Pq,Bool.and_eq_true,Bool.not_eq_true'] at h
    simp only [List.map_cons,List.nodup_cons,List.mem_map,not_exists,not_and]
    refine ⟨fun q hq e => ?_,Lg r h.2⟩
    have:=List.any_eq_false.1 h.1 q hq
    rw [e] at this
    simp at this
theorem N5:(o:Vm)→Tf o=true→(o.map (·.1)).Nodup
  | [],_=>by simp
  | (k,g) :: r,h=>by
    simp only [Tf,Bool.and_eq_true,Bool.not_eq_true'] at h
    simp only [List.map_cons,List.nodup_cons,List.mem_map,not_exists,not_and]
    refine ⟨fun q hq e => ?_,N5 r h.2⟩
    have:=List.any_eq_false.1 h.1 q hq
    rw [e] at this
    exact this (Mt.2 rfl)
def AAb (o:Vm) (g:Nat):Bool:=o.any fun q=>Nat.beq q.2 g
theorem Bn {o:Vm} {g:Nat}:AAb o g=true↔∃ q,q∈o∧q.2=g:=by
  unfold AAb
  rw [List.any_eq_true]
  constructor
  · rintro ⟨q,h1,h2⟩; exact ⟨q,h1,Nat.eq_of_beq_eq_true h2⟩
  · rintro ⟨q,h1,h2⟩; exact ⟨q,h1,by rw [h2]; simp⟩
open Classical in
theorem ret_ok (st:St w0.w.heap.size w0 A ρ own w h) (sl:Xh A ρ w s a) {rs:List RV} {fn:Func} (hc:Rs P rs fn.results.toList=true) {vs:List SV} {os:Vm} {ls:List Nat} (hr:resAll s h 0 rs=some (vs,os,ls)) :
    ∃ vals,(results fn a.tmps).run P w=.ok (Je vals) w∧Ht w0.A w0.w w vs (Og os ls) vals:=by
  have main:∀ o:Vm,(∀ q,q∈o→q∈os)→(o=os∨o=[])→(o.map (·.2)).Nodup→(o.map (·.1)).Nodup→(∀ g,g∈ls→AAb o g=false) →
      ∃ vals,(results fn a.tmps).run P w=.ok (Je vals) w∧Ht w0.A w0.w w vs (o.map (·.1)) vals:=fun o h1 h2 h3 h4 h5=>by
    let Aw:Nat→Prop:=fun b=>A b∨∃ g,own b=some g∧AAb o g=false
    let own':Nat→Option Nat:=fun b=>match own b with | some g=>if AAb o g then some g else none | none=>none
    have hown:∀ b g,own' b=some g↔own b=some g∧AAb o g=true:=fun b g=>by
      show (match own b with | some g=>if AAb o g then some g else none | none=>none)=some g↔_
      cases own b with
      | none=>simp
      | some g' =>
        simp only [Option.ite_none_right_eq_some,Option.some.injEq]
        constructor
        · rintro ⟨h,rfl⟩; exact ⟨rfl,h⟩
        · rintro ⟨rfl,h⟩; exact ⟨h,rfl⟩
    have hA:∀ b,A b→Aw b:=fun b hb=>.inl hb
    obtain ⟨vals,m1,m2,m3,m4⟩:=ABs (Aw:=Aw) (T:=AAb o) (o:=o) hA (fun g b hg hb=>.inr ⟨g,hb,hg⟩) st sl rs fn.results.toList 0 hc hr h5 (fun j p g _=>by
      constructor
      · intro hm; exact ⟨h1 _ hm,Bn.2 ⟨_,hm,rfl⟩⟩
      · rintro ⟨hm,ht⟩
        rcases h2 with rfl | rfl
        · exact hm
        · simp [AAb] at ht)
    refine ⟨vals,G6 (by simpa using m1) (fun j hj=>m2 j _ (by simp [hj])),st.below,Aw,ρ,own',o,rfl,h3,h4,m3,fun q hq => ?_,fun b g hg => ?_,fun b hb => ?_⟩
    · obtain ⟨τ,x,e,l,g1,g2,g3⟩:=m4 q (h1 q hq)
      refine ⟨τ,x,e,l,by simpa using g1,g2,?_⟩
      have ob:=st.objs q.2
      rw [g3] at ob
      obtain ⟨sp,n1,n2,n3,n4,n5,n6,n7,n8,n9⟩:=ob
      refine ⟨sp,n1,n2,n3,n4,n5,n6,n7,n8,fun hcap => ?_⟩
      obtain ⟨cs,k1,⟨k2,k3⟩,k4⟩:=n9 hcap
      exact ⟨cs,k1,⟨(hown _ _).2 ⟨k2,Bn.2 ⟨q,hq,rfl⟩⟩,k3⟩,fun i hi=>Zm.wide hA (k4 i hi)⟩
    · obtain ⟨k1,k2⟩:=(hown b g).1 hg
      refine ⟨fun hb => ?_,st.base _ _ k1,st.oldO _ _ k1⟩
      rcases hb with hb | ⟨g',hb,hf⟩
      · exact st.apart _ _ k1 hb
      · rw [k1] at hb
        cases hb
        rw [k2] at hf; cases hf
    · rcases hb with hb | ⟨g',hb,hf⟩
      · exact ⟨st.imm b hb,st.old b hb⟩
      · exact ⟨.inr (st.base _ _ hb),st.oldO _ _ hb⟩
  unfold Og
  split
  · rename_i hn
    simp only [Bool.and_eq_true] at hn
    refine main os (fun _ h=>h) (.inl rfl) (Lg os hn.1.1) (N5 os hn.1.2) (fun g hg => ?_)
    cases hx:AAb os g with
    | false=>rfl
    | true =>
      obtain ⟨q,hq,rfl⟩:=Bn.1 hx
      have:=List.all_eq_true.1 hn.2 q hq
      rw [Md.2 hg] at this
      cases this
  · exact main [] (fun _ h=>by cases h) (.inr rfl) (by simp) (by simp) (fun _ _=>rfl)
def Xe (P:Program) (f:FuncId) (g:Fn):Bool:=match P.funcs[f]? with
  | some fn=>(match fn.body with
    | some c => fn.name != "runtime.NumGoroutine" && Rs P g.res fn.results.toList && Ju P (g.np + (fn.ntmps - g.np)) g.body c
    | none=>false)
  | none=>false
theorem L6:(i:Nat)→(as:List SV)→{vs:List Value}→Zs A ρ w as vs→∀ j,Zl A ρ w (Xu (Pd i as) j) (if i≤j then vs.getD (j - i) undef else undef)
  | i,[],vs,hr,j=>by simp only [Pd,Xu,Zl]
  | i,u :: r,vs,hr,j=>by
    simp only [Zs] at hr
    obtain ⟨v,vs',rfl,h1,h2⟩:=hr
    simp only [Pd,Xu]
    cases hb:Nat.beq i j with
    | true =>
      have:=Nat.eq_of_beq_eq_true hb
      subst this
      simpa using h1
    | false =>
      have hne:=Nat.ne_of_beq_eq_false hb
      have:=L6 (i+1) r h2 j
      by_cases hle:i+1≤j
      · rw [if_pos hle] at this
        rw [if_pos (by omega),show j - i=(j - (i+1))+1 by omega]
        simpa using this
      · rw [if_neg hle] at this
        rw [if_neg (by omega)]
        exact this
theorem Wb (hm:P.follows .mixedOrders=true) {prog:FuncId→Option Fn} {sp:Calls} (hsp:Vw P sp) (hp:∀ f g,prog f=some g→Xe P f g=true):(n:Nat)→Vw P (Vy prog sp n)
  | 0=>fun f args res r hr=>by simp [Vy] at hr
  | n+1=>fun f args res r hr=>by
    have ih:=Wb hm hsp hp n
    simp only [Vy] at hr
    cases hf:prog f with
    | none=>rw [hf] at hr; exact hsp f args res r hr
    | some g =>
      rw [hf] at hr
      simp only [] at hr
      split at hr
      case h_2=>cases hr
      rename_i hnp
      have hnp:=Nat.eq_of_beq_eq_true hnp
      have hc:=hp f g hf
      unfold Xe at hc
      cases hfn:P.funcs[f]? with
      | none=>rw [hfn] at hc; cases hc
      | some fn =>
        rw [hfn] at hc
        simp only [] at hc
        cases hbd:fn.body with
        | none=>rw [hbd] at hc; cases hc
        | some c =>
          rw [hbd] at hc
          simp only [Bool.and_eq_true] at hc
          obtain ⟨⟨c1,c2⟩,c3⟩:=hc
          refine ⟨by unfold Y2; rw [hfn]; simp only [c1,hbd]; rfl,fun w A vs hAb hgl hrep => ?_⟩
          have hlen:=Zs.len args hrep
          refine calls_of_wp hfn hbd ?_
          have hst:St w.heap.size ⟨w,A⟩ A (fun _=>none) (fun _=>none) w (Xn []) :=
            { objs:=fun g=>rfl,apart:=(fun b g h=>by cases h),old:=hAb,oldO:=(fun b g h=>by cases h),base:=(fun b g h=>by cases h),below:=RowKit.Below.refl _ w,hB:=Nat.le_refl _,imm:=fun b h=>.inl h,names:=(fun g ⟨s,h⟩=>by cases h),glob:=hgl }
          have hret:∀ e:Ex,(∀ i,e≠.exit i)→AKx (g.np+(fn.ntmps - g.np)) w.heap.size ⟨w,A⟩ r (Xa g res) e (bodyPost P fn fun e w'=>∃ vals,e=.returned (Je vals)∧Ht A w w' (V5 res r.1) r.2 vals):=fun e he s h a w' hk hs=>by
            obtain ⟨A',ρ',own',st,sl,sz,df⟩:=hs
            have hk:(match resAll (Xu s) (Xn h) 0 g.res with
                | some (vs,o,l)=>(match Tz res vs with
                  | some x=>some (x,Og o l)
                  | none=>none)
                | none=>none)=some r:=by
              cases e with
              | norm=>exact hk
              | exit i=>exact absurd rfl (he i)
              | ret=>exact hk
            split at hk
            · rename_i vs' o l hres
              split at hk
              · rename_i x hx
                simp only [Option.some.injEq] at hk
                subst hk
                obtain ⟨vals,v1,v2⟩:=ret_ok (P:=P) (w0:=⟨w,A⟩) st sl c2 hres
                rw [Kk res vs' hx] at v2
                cases e with
                | norm=>exact ⟨df,_,v1,vals,rfl,v2⟩
                | exit i=>exact absurd rfl (he i)
                | ret=>exact ⟨df,_,v1,vals,rfl,v2⟩
              · cases hk
            · cases hk
          refine Y8 ih hm g.body c c3 (hret .norm (by simp)) (fun e he => ?_) (lp:=n) (s:=Pd 0 args) (h:=[]) ?_ hr
          · cases e with
            | norm=>exact absurd rfl he
            | exit i=>exact fun s h a w hk _=>by simp [Xa] at hk
            | ret=>exact hret .ret (by simp)
          · refine ⟨A,fun _=>none,fun _=>none,hst,fun j => ?_,?_,rfl⟩
            · have:=L6 0 args hrep j
              simp only [Nat.zero_le,if_true,Nat.sub_zero] at this
              have he:∀ v,vs[j]?=some v→(vs.toArray ++ Array.replicate (fn.ntmps - vs.toArray.size) undef).getD j undef=v:=fun v hv=>by
                have hlt:j<vs.length:=(List.getElem?_eq_some_iff.1 hv).1
                rw [Array.getD_eq_getD_getElem?,Array.getElem?_append_left (by simpa using hlt)]
                simp [hv]
              rcases Nat.lt_or_ge j vs.length with hj | hj
              · have hv:=List.getElem?_eq_getElem hj
                show Zl A _ w _ ((vs.toArray ++ Array.replicate (fn.ntmps - vs.toArray.size) undef).getD j undef)
                rw [he _ hv]
                rw [List.getD_eq_getElem?_getD,hv] at this
                exact this
              · have:Xu (Pd 0 args) j=.junk:=by
                  have key:∀ (as:List SV) (i:Nat),i+as.length≤j→Xu (Pd i as) j=.junk:=by
                    intro as
                    induction as with
                    | nil=>intro i _; rfl
                    | cons u r ihh =>
                      intro i hi
                      simp only [Pd,Xu]
                      simp only [List.length_cons] at hi
                      cases hb:Nat.beq i j with
                      | true=>have:=Nat.eq_of_beq_eq_true hb; omega
                      | false=>exact ihh (i+1) (by omega)
                  exact key args 0 (by omega)
                rw [this]
                simp only [Zl]
            · simp only [Array.size_append,Array.size_replicate,List.size_toArray]
              rw [← hlen,hnp]
end
end Go.Proofs.YtjobjooccgledaaGreatDoor.Ghost
namespace Go.Proofs.YtjobjooccgledaaGreatDoor.Ghost
open Go
mutual
def wfD:(τ:Ty)→den τ→Prop
  | .bool,_=>True
  | .int k,x=>k.min≤x∧x≤k.max
  | .str,_=>True
  | .sl e,l=>List.length l≤maxLen∧∀ y:den e,y∈(l:List (den e))→wfD e y
  | .arr n e,l=>List.length l=n∧∀ y:den e,y∈(l:List (den e))→wfD e y
  | .st fs,x=>wfF fs x
def wfF:(fs:List Ty)→K7 fs→Prop
  | [],_=>True
  | t :: r,x=>wfD t x.1∧wfF r x.2
end
theorem Nn {α:Type} (d:α) {p:Nat→α→Prop}:(n:Nat)→(∀ i,i<n→∃ x,p i x)→∃ l:List α,l.length=n∧∀ i,i<n→p i (l.getD i d)
  | 0,_=>⟨[],rfl,fun i hi=>by omega⟩
  | n+1,h=>by
    obtain ⟨l,h1,h2⟩:=Nn d n (fun i hi=>h i (by omega))
    obtain ⟨x,hx⟩:=h n (by omega)
    refine ⟨l ++ [x],by simp [h1],fun i hi => ?_⟩
    by_cases hin:i<n
    · have:=h2 i hin
      rw [List.getD_eq_getElem?_getD] at this ⊢
      rw [List.getElem?_append_left (by omega)]
      exact this
    · have:i=n:=by omega
      subst this
      rw [List.getD_eq_getElem?_getD,List.getElem?_append_right (by omega),h1]
      simpa using hx
theorem AFm {α:Type} {l:List α} {d y:α} (h:y∈l):∃ i,i<l.length∧l.getD i d=y:=by
  obtain ⟨i,hi,he⟩:=List.getElem_of_mem h
  exact ⟨i,hi,by rw [List.getD_eq_getElem?_getD,List.getElem?_eq_getElem hi]; exact he⟩
section
variable {H:Type} {enc:TypeId×Value→H} {P:Program} {w:World} {base:Nat} {spare:Nat→Bool} {held:Bool} {ρ:Xf}
theorem Tn {t:TypeId} {n:Nat} (h:Jr P t n=true):P.cellsOf t=n:=by
  obtain ⟨i,h1,h2⟩:=G8 h
  simp [Program.cellsOf,h1,h2]
theorem AQi {a:Addr} {v:Value} (h:w.cell? a=some v):a.block<w.heap.size:=by
  unfold World.cell? at h
  split at h
  · rename_i hb; exact (Array.getElem?_eq_some_iff.1 hb).1
  · cases h
mutual
theorem Fm:(τ:Ty)→{t:TypeId}→{fuel:Nat}→{cs:List Value}→{x:DataW H×List MemPlace}→Xx P τ t=true→Jr P t (Zj τ)=true→DataW.trod enc P w base spare held fuel t cs=some x →
    ∃ y:den τ,Zm (fun b=>b<w.heap.size) ρ w τ y [] cs∧wfD τ y
  | .bool,t,fuel,cs,x,hd,_,h=>by
    simp only [Xx] at hd
    split at hd
    · rename_i hu
      obtain ⟨b,rfl,_⟩:=DataW.trod_bool hu h
      exact ⟨b,by simp only [Zm],trivial⟩
    · cases hd
  | .int k,t,fuel,cs,x,hd,_,h=>by
    simp only [Xx] at hd
    split at hd
    · rename_i k' hu
      have:=of_decide_eq_true hd
      subst this
      obtain ⟨n,rfl,_,hw⟩:=DataW.trod_int hu h
      simp only [Lit.wf,Bool.and_eq_true,decide_eq_true_eq] at hw
      exact ⟨n,by simp only [Zm],hw⟩
    · cases hd
  | .str,t,fuel,cs,x,hd,_,h=>by
    simp only [Xx] at hd
    split at hd
    · rename_i hu
      obtain ⟨s,rfl,_⟩:=DataW.trod_string hu h
      exact ⟨s,by simp only [Zm],trivial⟩
    · cases hd
  | .sl e,t,fuel,cs,x,hd,_,h=>by
    simp only [Xx] at hd
    split at hd
    · rename_i e' hu
      simp only [Bool.and_eq_true,Nat.blt_eq] at hd
      obtain ⟨⟨d1,d2⟩,d3⟩:=hd
      have hco:=Tn d2
      rcases Go.Deep.open_slice hu h with ⟨rfl,_⟩ | ⟨a,len,cap,m,n,D,Pl,rfl,_,hl,hm,hmm,_,hx⟩
      · refine ⟨([]:List (den e)),?_,?_⟩
        · simp only [Zm]
          exact ⟨none,0,0,rfl,fun g hg=>by simp at hg,fun _=>⟨rfl,Nat.le_refl _,fun hp=>by omega⟩⟩
        · simp only [wfD]
          exact ⟨Nat.zero_le _,fun y hy=>by cases hy⟩
      · have hlm:len≤m:=by rw [hmm]; split <;> omega
        obtain ⟨cf,hcf⟩:=Go.Deep.choose_lt (α:=List Value) (p:=fun i cs'=>w.cells? base (a.add (i * P.cellsOf e')) (P.cellsOf e')=some cs'∧DataW.trod enc P w base spare held n e' cs'=some (D i,Pl i)) hx
        obtain ⟨l,l1,l2⟩:=Nn (dft e) (p:=fun i y=>Zm (fun b=>b<w.heap.size) ρ w e y [] (cf i)∧wfD e y) len (fun i hi=>Fm e d1 d2 (hcf i (by omega)).2)
        refine ⟨l,?_,?_⟩
        · simp only [Zm]
          refine ⟨some a,len,cap,rfl,fun g hg=>by simp at hg,fun _=>⟨l1.symm,hl,fun hp => ?_⟩⟩
          have hcell:∀ i,i<len→∀ j,j<Zj e→w.cell? ((a.add (i * Zj e)).add j)=(cf i)[j]?:=fun i hi j hj=>by
            have:=(hcf i (by omega)).1
            rw [hco] at this
            exact (World.cells?_some this).2.2 j hj
          have hlen:∀ i,i<len→(cf i).length=Zj e:=fun i hi=>by
            have:=(hcf i (by omega)).1
            rw [hco] at this
            exact (World.cells?_some this).2.1
          obtain ⟨b,o,sp⟩:=a
          have h0:=hcell 0 hp 0 d3
          have hc0:∃ v,(cf 0)[0]?=some v:=⟨_,List.getElem?_eq_getElem (by rw [hlen 0 hp]; exact d3)⟩
          obtain ⟨v0,hv0⟩:=hc0
          rw [hv0] at h0
          have hsp:sp=none:=by
            have:=World.cell?_spot h0
            simpa [Addr.add] using this
          subst hsp
          have hlt:=AQi h0
          have hlt:b<w.heap.size:=by simpa [Addr.add] using hlt
          have hadd:∀ i j:Nat,((Addr.mk b o none).add (i * Zj e)).add j=(⟨b,o+(i * Zj e+j),none⟩:Addr):=fun i j=>by
            unfold Addr.add
            by_cases h1:i * Zj e=0
            · by_cases h2:j=0
              · simp [h1,h2]
              · simp [h1,h2]
            · by_cases h2:j=0
              · simp [h1,h2]
              · simp [h1,h2,Nat.add_assoc]
          let vs:List Value:=(List.range len).map fun i=>Value.agg (cf i).toArray
          have hvs:∀ i,i<len→vs[i]?=some (Value.agg (cf i).toArray):=fun i hi=>by
            show ((List.range len).map fun i=>Value.agg (cf i).toArray)[i]?=_
            rw [List.getElem?_map,List.getElem?_range hi]; rfl
          have hvl:vs.length=len:=by show ((List.range len).map _).length=len; simp
          have hsz:∀ v,v∈vs→v.cells.size=Zj e:=fun v hv=>by
            obtain ⟨i,hi,rfl⟩:=List.mem_map.1 hv
            simp only [Value.cells,List.size_toArray]
            exact hlen i (List.mem_range.1 hi)
          have hds:(Yr vs).length=len * Zj e:=by rw [Gt vs hsz,hvl]
          have hcut:∀ i,i<len→cut (Yr vs) (i * Zj e) (Zj e)=cf i:=fun i hi=>by
            rw [Lu vs hsz i _ (hvs i hi)]
            simp [Value.cells]
          refine ⟨b,o,Yr vs,rfl,hlt,?_,hds,?_⟩
          · intro k v hv
            have hk:k<len * Zj e:=by rw [← hds]; exact (List.getElem?_eq_some_iff.1 hv).1
            have hi:k / Zj e<len:=Nat.div_lt_of_lt_mul (by rw [Nat.mul_comm]; exact hk)
            have hj:=Nat.mod_lt k d3
            have hm:=Nat.div_add_mod k (Zj e)
            have h1:=hcell _ hi _ hj
            rw [hadd] at h1
            have h2:(cut (Yr vs) (k / Zj e * Zj e) (Zj e))[k % Zj e]?=(Yr vs)[k]?:=by
              rw [Qx,if_pos hj,Nat.mul_comm,hm]
            rw [← hcut _ hi,h2,hv] at h1
            rw [show k / Zj e * Zj e+k % Zj e=k by rw [Nat.mul_comm]; exact hm] at h1
            exact h1
          · intro i hi
            have:=(l2 i hi).1
            rw [← hcut i hi] at this
            exact this
        · simp only [wfD]
          refine ⟨by rw [l1]; omega,fun y hy => ?_⟩
          obtain ⟨i,hi,he⟩:=AFm (d:=dft e) hy
          rw [← he]
          exact (l2 i (by omega)).2
    · cases hd
  | .arr n e,t,fuel,cs,x,hd,hs,h=>by
    simp only [Xx] at hd
    split at hd
    · rename_i n' e' hu
      simp only [Bool.and_eq_true,Nat.blt_eq] at hd
      obtain ⟨⟨⟨d0,d1⟩,d2⟩,d3⟩:=hd
      have:=Nat.eq_of_beq_eq_true d0
      subst this
      have hco:=Tn d2
      obtain ⟨xs,m,_,_,hlen,hxs,hx⟩:=DataW.trod_array hu h
      rw [Tn hs] at hlen
      obtain ⟨l,l1,l2⟩:=Nn (dft e) (p:=fun i y=>Zm (fun b=>b<w.heap.size) ρ w e y [] ((cs.drop (i * Zj e)).take (Zj e))∧wfD e y) n' (fun i hi=>by
        have h1:=hx i hi
        rw [hco,List.getElem?_eq_getElem (by omega)] at h1
        exact Fm e d1 d2 h1)
      refine ⟨l,?_,?_⟩
      · simp only [Zm]
        exact ⟨l1,hlen,fun i hi=>(l2 i hi).1⟩
      · simp only [wfD]
        refine ⟨l1,fun y hy => ?_⟩
        obtain ⟨i,hi,he⟩:=AFm (d:=dft e) hy
        rw [← he]
        exact (l2 i (by omega)).2
    · cases hd
  | .st fs,t,fuel,cs,x,hd,hs,h=>by
    simp only [Xx] at hd
    split at hd
    · rename_i l hu
      obtain ⟨xs,n,_,_,hlen,hxs,hx⟩:=DataW.trod_struct hu h
      rw [Tn hs] at hlen
      obtain ⟨y,y1,y2⟩:=ABy fs (cs0:=cs) (cs:=cs) (n:=n) (j:=0) hd rfl hlen (fun i f hf=>by
        have hf':l[i]?=some f:=by simpa using hf
        have h1:=hx i f hf'
        have hlt:i<xs.length:=by rw [hxs]; exact (Array.getElem?_eq_some_iff.1 hf').1
        rw [List.getElem?_eq_getElem hlt] at h1
        exact ⟨_,h1⟩)
      exact ⟨y,by simp only [Zm]; exact y1,by simp only [wfD]; exact y2⟩
    · cases hd
theorem ABy:(fs:List Ty)→{o:Nat}→{l:List Field}→{cs0 cs:List Value}→{n j:Nat}→Q5 P fs o l=true→cs=cs0.drop o→cs.length=Gi fs→(∀ (i:Nat) (f:Field),l[i]?=some f→∃ x,DataW.trod enc P w base spare held n f.type ((cs0.drop f.offset).take (P.cellsOf f.type))=some x) →
    ∃ y:K7 fs,Xs (fun b=>b<w.heap.size) ρ w fs j y [] cs∧wfF fs y
  | [],o,l,cs0,cs,n,j,hf,hc,hl,hx=>by
    refine ⟨(),?_,trivial⟩
    simp only [Xs]
    exact List.length_eq_zero_iff.1 (by simpa [Gi] using hl)
  | t :: r,o,[],cs0,cs,n,j,hf,hc,hl,hx=>by cases hf
  | t :: r,o,f :: s,cs0,cs,n,j,hf,hc,hl,hx=>by
    simp only [Q5,Bool.and_eq_true,Nat.blt_eq] at hf
    obtain ⟨⟨⟨⟨h1,h2⟩,h3⟩,h4⟩,h5⟩:=hf
    have h1:=Nat.eq_of_beq_eq_true h1
    obtain ⟨x,hx0⟩:=hx 0 f rfl
    rw [h1,Tn h2,← hc] at hx0
    obtain ⟨y,y1,y2⟩:=Fm t h4 h2 hx0
    simp only [Gi] at hl
    obtain ⟨z,z1,z2⟩:=ABy r (j:=j+1) (cs:=cs.drop (Zj t)) (cs0:=cs0) h5 (by rw [hc,List.drop_drop]) (by rw [List.length_drop]; omega) (fun i f hf=>hx (i+1) f (by simpa using hf))
    refine ⟨(y,z),?_,?_⟩
    · simp only [Xs]
      exact ⟨y1,z1⟩
    · simp only [wfF]
      exact ⟨y2,z2⟩
end
end
end Go.Proofs.YtjobjooccgledaaGreatDoor.Ghost
namespace Go.Proofs.YtjobjooccgledaaGreatDoor.Ghost
open Go
section
variable {H:Type} {enc:TypeId×Value→H} {P:Program} {w:World} {base:Nat} {spare:Nat→Bool} {held:Bool} {ρ:Xf}
theorem D2 (τ:Ty) {t:TypeId} {v:Value} {d:DataW H} {ps:List MemPlace} {r:Reach} {b0:Nat} (hd:Xx P τ t=true) (hs:Jr P t (Zj τ)=true) (hv:Value.okWide P w r b0 t v) (h:DataW.Trod enc P w base spare held t v d ps) :
    ∃ y:den τ,Zl (fun b=>b<w.heap.size) ρ w (.dat τ y []) v∧wfD τ y:=by
  obtain ⟨fuel,hf⟩:=h
  obtain ⟨y,h1,h2⟩:=Fm (ρ:=ρ) τ hd hs hf
  refine ⟨y,?_,h2⟩
  simp only [Zl]
  refine ⟨_,h1,?_⟩
  cases τ with
  | bool =>
    simp only [Xx] at hd
    split at hd
    · rename_i hu; obtain ⟨b,rfl⟩:=Go.WideShapes.okWide_bool hu hv; rfl
    · cases hd
  | int k =>
    simp only [Xx] at hd
    split at hd
    · rename_i k' hu; obtain ⟨b,rfl⟩:=Go.WideShapes.okWide_int hu hv; rfl
    · cases hd
  | str =>
    simp only [Xx] at hd
    split at hd
    · rename_i hu; obtain ⟨b,rfl⟩:=Go.WideShapes.okWide_string hu hv; rfl
    · cases hd
  | sl e =>
    simp only [Xx] at hd
    split at hd
    · rename_i e' hu; obtain ⟨a,n,c,rfl⟩:=Go.WideShapes.okWide_slice hu hv; rfl
    · cases hd
  | arr n e =>
    simp only [Xx] at hd
    split at hd
    · rename_i n' e' hu
      unfold Value.okWide at hv
      rw [hu] at hv
      obtain ⟨cs,rfl,_⟩:=hv
      simp [mkV,Ua,Value.cells]
    · cases hd
  | st fs =>
    simp only [Xx] at hd
    split at hd
    · rename_i l hu; obtain ⟨cs,rfl,_⟩:=Go.WideShapes.okWide_struct hu hv; simp [mkV,Ua,Value.cells]
    · cases hd
theorem ALf {A:Nat→Prop}:Zs A ρ w [] []:=by simp only [Zs]
theorem Mf {A:Nat→Prop} {u:SV} {v:Value} {us:List SV} {vs:List Value} (h1:Zl A ρ w u v) (h2:Zs A ρ w us vs):Zs A ρ w (u :: us) (v :: vs):=by
  simp only [Zs]; exact ⟨v,vs,rfl,h1,h2⟩
theorem AJ5 {cf:Calls} (hcf:Vw P cf) {f:FuncId} {args:List SV} {fr:Zz} (h:cf f args [.d .bool]=some ((true,()),fr)) {vs:List Value} (hgl:Yq (fun b=>b<w.heap.size) w) (hr:Zs (fun b=>b<w.heap.size) (fun _=>none) w args vs) :
    Go.Calls P f vs.toArray w (fun e w'=>e=.returned (.bool true)∧RowKit.Below w.heap.size w w'):=by
  refine Calls.mono ((hcf f args [.d .bool] _ h).2 w _ vs (fun b hb=>hb) hgl hr) (fun e w' he => ?_)
  obtain ⟨vals,rfl,hb,A',ρ',own',o,fr⟩:=he
  have:=fr.rep
  simp only [V5,inj,Jq,Rv,J9,Zs] at this
  obtain ⟨v,vs',rfl,h1,rfl⟩:=this
  exact ⟨by rw [Jj h1]; rfl,hb⟩
end
end Go.Proofs.YtjobjooccgledaaGreatDoor.Ghost
namespace Go.Proofs.YtjobjooccgledaaGreatDoor.Ghost
open Go
section
variable {P:Program}
theorem ADa {N:Nat} {w:World} {A:Nat→Prop} {fn:Func} {g:Fn} {res:List Sh} {r:Xc res×Zz} (c2:Rs P g.res fn.results.toList=true) (e:Ex) (he:∀ i,e≠.exit i) :
    AKx N w.heap.size ⟨w,A⟩ r (Xa g res) e (bodyPost P fn fun e w'=>∃ vals,e=.returned (Je vals)∧Ht A w w' (V5 res r.1) r.2 vals):=fun s h a w' hk hs=>by
  obtain ⟨A',ρ',own',st,sl,sz,df⟩:=hs
  have hk:(match resAll (Xu s) (Xn h) 0 g.res with
      | some (vs,o,l)=>(match Tz res vs with
        | some x=>some (x,Og o l)
        | none=>none)
      | none=>none)=some r:=by
    cases e with
    | norm=>exact hk
    | exit i=>exact absurd rfl (he i)
    | ret=>exact hk
  split at hk
  · rename_i vs' o l hres
    split at hk
    · rename_i x hx
      simp only [Option.some.injEq] at hk
      subst hk
      obtain ⟨vals,v1,v2⟩:=ret_ok (P:=P) (w0:=⟨w,A⟩) st sl c2 hres
      rw [Kk res vs' hx] at v2
      cases e with
      | norm=>exact ⟨df,_,v1,vals,rfl,v2⟩
      | exit i=>exact absurd rfl (he i)
      | ret=>exact ⟨df,_,v1,vals,rfl,v2⟩
    · cases hk
  · cases hk
theorem Ow {N B:Nat} {w0:Y6} {g:Fn} {res:List Sh} {r:Xc res×Zz} {Q:Exit→Act→World→Prop} (i:Nat):AKx N B w0 r (Xa g res) (.exit i) Q:=fun s h a w hk _=>by simp [Xa] at hk
theorem C9 {n k:Nat} {w:World} {A:Nat→Prop} {args:List SV} {vs:List Value} (hA:∀ b,A b→b<w.heap.size) (hgl:Yq A w) (hr:Zs A (fun _=>none) w args vs) (hn:args.length=n) :
    Is (n+(k - n)) w.heap.size ⟨w,A⟩ (Xu (Pd 0 args)) (Xn []) { tmps:=vs.toArray ++ Array.replicate (k - vs.toArray.size) undef,defers:=[] } w:=by
  have hlen:=Zs.len args hr
  have hst:St w.heap.size ⟨w,A⟩ A (fun _=>none) (fun _=>none) w (Xn []) :=
    { objs:=fun g=>rfl,apart:=(fun b g h=>by cases h),old:=hA,oldO:=(fun b g h=>by cases h),base:=(fun b g h=>by cases h),below:=RowKit.Below.refl _ w,hB:=Nat.le_refl _,imm:=fun b h=>.inl h,names:=(fun g ⟨s,h⟩=>by cases h),glob:=hgl }
  refine ⟨A,fun _=>none,fun _=>none,hst,fun j => ?_,?_,rfl⟩
  · have:=L6 0 args hr j
    simp only [Nat.zero_le,if_true,Nat.sub_zero] at this
    rcases Nat.lt_or_ge j vs.length with hj | hj
    · have hv:=List.getElem?_eq_getElem hj
      have he:(vs.toArray ++ Array.replicate (k - vs.toArray.size) undef).getD j undef=vs[j]:=by
        rw [Array.getD_eq_getD_getElem?,Array.getElem?_append_left (by simpa using hj)]
        simp [hv]
      show Zl A _ w _ ((vs.toArray ++ Array.replicate (k - vs.toArray.size) undef).getD j undef)
      rw [he]
      rw [List.getD_eq_getElem?_getD,hv] at this
      exact this
    · have:Xu (Pd 0 args) j=.junk:=by
        have key:∀ (as:List SV) (i:Nat),i+as.length≤j→Xu (Pd i as) j=.junk:=by
          intro as
          induction as with
          | nil=>intro i _; rfl
          | cons u r ihh =>
            intro i hi
            simp only [Pd,Xu]
            simp only [List.length_cons] at hi
            cases hb:Nat.beq i j with
            | true=>have:=Nat.eq_of_beq_eq_true hb; omega
            | false=>exact ihh (i+1) (by omega)
        exact key args 0 (by omega)
      rw [this]
      simp only [Zl]
  · simp only [Array.size_append,Array.size_replicate,List.size_toArray]
    rw [← hlen,hn]
def Ct (P:Program) (o:Oper):Bool:=match o.op with
  | .binOp .eql T (.tmp 3) (.const (.slice none 0 0)) _=>(match P.underlying T with | some (.slice _)=>true | _=>false) && (match o.dst with | some d=>Nat.beq d 4 | none=>false) && o.guard.isNone
  | _=>false
theorem AJ4 {o:Oper} {a:Act} {w:World} (hc:Ct P o=true) {ad:Option Addr} {n c:Nat} (hv:a.eval (.tmp 3)=.slice ad n c):(execOp a.eval o).run P w=.ok (.value (.bool ad.isNone)) w∧o.dst=some 4∧o.guard=none:=by
  unfold Ct at hc
  split at hc
  · rename_i T T' ho
    simp only [Bool.and_eq_true] at hc
    obtain ⟨⟨h1,h2⟩,h3⟩:=hc
    refine ⟨?_,?_,by simpa using h3⟩
    · split at h1
      · rename_i e hu
        have he:a.eval (.const (.slice none 0 0))=.slice none 0 0:=rfl
        have key:(Go.Op.equal T (.slice ad n c) (.slice none 0 0)).run P w=.ok ad.isNone w:=by
          have k:∀ d,(Go.Op.equalIn (d+1) T (.slice ad n c) (.slice none 0 0)).run P w=.ok ad.isNone w:=fun d=>by
            unfold Go.Op.equalIn
            cases ad <;> simp [run_underlying hu]
          exact k _
        simp only [execOp,ho,hv,he,Sem.run_bind]
        have h0:(eqGuard .eql T (.tmp 3) (.const (.slice none 0 0)) (.slice ad n c) (.slice none 0 0)).run P w=.ok () w:=by
          unfold eqGuard; rfl
        simp only [h0,Result.andThen_ok,Go.binOp,Sem.run_bind,key,Sem.run_pure]
      · cases h1
    · split at h2
      · rename_i d hd; rw [hd,Nat.eq_of_beq_eq_true h2]
      · cases h2
  · cases hc
def cl0 (e:Ty):Cd:=.reg false [⟨some 2,.mknil 0 e,none,[],[]⟩]
def clB (e:Ty):Cd:=.cond (.t 4) (.seq (.reg false [⟨some 2,.mknil 1 e,none,[],[]⟩]) .ret) .skip
def clC (e:Ty):Cd:=.seq (.reg false [⟨some 5,.slice 1 e [],none,[],[]⟩,⟨some 6,.move (.t 0),none,[],[]⟩,⟨some 7,.append 2 e (.t 5) (.t 6),none,[],[]⟩,⟨some 2,.move (.t 7),none,[],[]⟩]) .ret
def D6 (P:Program) (f:FuncId) (e:Ty):Bool:=match P.funcs[f]? with
  | some fn => fn.name != "runtime.NumGoroutine" && Rs P [.tmp 2] fn.results.toList && (match fn.body with
    | some (.seq R0 (.seq (.seq (.region _ ops false) C) S3))=>Ju P (1+(fn.ntmps - 1)) (cl0 e) R0 && Ju P (1+(fn.ntmps - 1)) (clB e) C && Ju P (1+(fn.ntmps - 1)) (clC e) S3 && Nat.blt 4 (1+(fn.ntmps - 1)) && (match ops.toList with
      | [o0,o1]=>Kw P (1+(fn.ntmps - 1)) ops ⟨some 3,.move (.t 0),none,[],[]⟩ o0 && Ct P o1
      | _=>false)
    | _=>false)
  | none=>false
theorem M1 (a:Ty):Kp a a=some ⟨rfl⟩:=by
  have h:=J0 (dft a)
  unfold Jc at h
  split at h
  · rename_i hh; exact hh
  · cases h
def Yl:Calls:=fun _ _ _=>none
theorem X1:Vw P Yl:=fun f args res r h=>by cases h
theorem AD8 (hm:P.follows .mixedOrders=true) {f:FuncId} {e:Ty} (hc:D6 P f e=true) {x:List (den e)} (hx:List.length x≤1048576) {w:World} {A:Nat→Prop} {vs:List Value} (hA:∀ b,A b→b<w.heap.size) (hgl:Yq A w)
    (hr:Zs A (fun _=>none) w [.dat (.sl e) x []] vs):Y2 P f=true∧Go.Calls P f vs.toArray w (fun en w'=>∃ vals,en=.returned (Je vals)∧Ht A w w' [.dat (.sl e) x []] [(0,[])] vals):=by
  unfold D6 at hc
  cases hf:P.funcs[f]? with
  | none=>rw [hf] at hc; cases hc
  | some fn =>
    rw [hf] at hc
    simp only [Bool.and_eq_true] at hc
    obtain ⟨⟨c1,c2⟩,c3⟩:=hc
    split at c3
    case h_2=>cases c3
    rename_i R0 rid ops C S3 hbd
    simp only [Bool.and_eq_true,Nat.blt_eq] at c3
    obtain ⟨⟨⟨⟨d0,dB⟩,dC⟩,d4⟩,dO⟩:=c3
    split at dO
    case h_2=>cases dO
    rename_i o0 o1 hops
    simp only [Bool.and_eq_true] at dO
    refine ⟨by unfold Y2; rw [hf]; simp only [c1,hbd]; rfl,?_⟩
    have hzero:ops[0]?=some o0:=by rw [← Array.getElem?_toList,hops]; rfl
    have hone:ops[1]?=some o1:=by rw [← Array.getElem?_toList,hops]; rfl
    have hsz:ops.size=2:=by rw [← Array.length_toList,hops]; rfl
    refine calls_of_wp hf hbd ?_
    let fin:Xc [Sh.d (.sl e)]×Zz:=((x,()),[(0,[])])
    let g:Fn:=⟨1,[.tmp 2],.skip⟩
    have hret:=ADa (P:=P) (N:=1+(fn.ntmps - 1)) (w:=w) (A:=A) (fn:=fn) (g:=g) (res:=[.d (.sl e)]) (r:=fin) c2
    have h0:=C9 (n:=1) (k:=fn.ntmps) hA hgl hr rfl
    let s0:Xk:=[(0,.dat (.sl e) x []),(2,.dat (.sl e) [] [([],some 0)])]
    refine wp_seq (Y8 (R:=Xk×Yj) (r:=(s0,[.arr e []])) (lp:=0) X1 hm (cl0 e) R0 d0 (Kn:=fun _ s h=>some (s,h)) (K:=fun _ _ _=>none) (fun s h a w' hk hs => ?_) (fun _ _ s h a w' hk _=>by cases hk) h0 rfl)
    simp only [Option.some.injEq,Prod.mk.injEq] at hk
    obtain ⟨rfl,rfl⟩:=hk
    show Code.wp P _ _ a w'
    refine wp_seq (wp_seq (wp_region ?_))
    rw [hsz,List.range_eq_range']
    show wpOps P ops _ [0,1] a w'
    rw [wpOps_cons]
    refine Rp (draw:=false) hzero hs X1 dO.1 (v:=.dat (.sl e) x []) (e:=[]) ⟨(fun h=>by cases h),rfl⟩ (fun a1 w1 hs1 => ?_)
    rw [wpOps_cons]
    obtain ⟨A1,ρ1,own1,st1,sl1,sz1,df1⟩:=hs1
    have h3:=sl1 3
    have h3':Zl A1 ρ1 w1 (.dat (.sl e) x []) (a1.eval (.tmp 3)):=h3
    simp only [Zl,Zm] at h3'
    obtain ⟨cs,⟨ad,n,c,rfl,_,hl⟩,hv⟩:=h3'
    obtain ⟨hl1,hl2⟩:=hl (fun o ho=>by cases ho)
    have hv:a1.eval (.tmp 3)=.slice ad n c:=hv
    obtain ⟨k1,k2,k3⟩:=AJ4 (w:=w1) dO.2 hv
    unfold wpOp
    simp only [hone,Region.wanted,k3,if_true]
    refine .inl ?_
    unfold Oper.wp
    rw [k1]
    rw [Oper.upon_value,k2]
    simp only [wpOps]
    show Code.wp P C _ _ _
    have hs2:Is (1+(fn.ntmps - 1)) w.heap.size ⟨w,A⟩ (Xu (s0 ++ [(3,.dat (.sl e) x []),(4,.dat .bool ad.isNone [])])) (Xn [.arr e []]) (a1.put (some 4) (.bool ad.isNone)) w1:=by
      refine ⟨A1,ρ1,own1,st1,?_,by rw [Kl]; exact sz1,by rw [Q3]; exact df1⟩
      have:=Xh.put (d:=some 4) (v:=.dat .bool ad.isNone []) (v':=.bool ad.isNone) sl1 (X9.refl A1 ρ1 w1) (fun i hi=>by cases hi; rw [sz1]; exact d4) Hq
      intro i
      have h1:=this i
      have he:Xu (s0 ++ [(3,.dat (.sl e) x []),(4,.dat .bool ad.isNone [])]) i=T7 (T7 (Xu s0) (some 3) (.dat (.sl e) x [])) (some 4) (.dat .bool ad.isNone []) i:=by
        rcases i with _ | _ | _ | _ | _ | i <;> rfl
      rw [he]; exact h1
    cases ad with
    | none =>
      have hx0:x=[]:=by
        rcases Nat.eq_zero_or_pos n with h | h
        · exact List.length_eq_zero_iff.1 (by omega)
        · obtain ⟨b,o,ds,hb,_⟩:=hl2.2 h
          cases hb
      subst hx0
      refine Y8 (R:=Xc [Sh.d (.sl e)]×Zz) (r:=fin) (lp:=0) X1 hm (clB e) C dB (Kn:=fun _ _ _=>none) (K:=Xa g [.d (.sl e)]) (fun s h a w' hk _=>by cases hk) (fun ex hex => ?_) hs2 (by simp [clB,clC,run,evO,Yz,B4,gop,Xu,El,M5,P2,R7,Xn,Xa,resAll,Hp,Hp.resFin,Hp.ovOwn,N6,V8,Ghost.resolve,setP,J0,M1,Tz,prj,Og,Pq,Tf,Wq,Ps,s0,g,fin])
      cases ex with
      | norm=>exact absurd rfl hex
      | exit i=>exact Ow i
      | ret=>exact hret .ret (by simp)
    | some ad =>
      refine Y8 (R:=Xk×Yj) (r:=(s0 ++ [(3,.dat (.sl e) x []),(4,.dat .bool false [])],[.arr e []])) (lp:=0) X1 hm (clB e) C dB (Kn:=fun _ s h=>some (s,h)) (K:=fun _ _ _=>none) (fun s h a w' hk hs => ?_) (fun _ _ s h a w' hk _=>by cases hk) hs2 rfl
      simp only [Option.some.injEq,Prod.mk.injEq] at hk
      obtain ⟨rfl,rfl⟩:=hk
      show Code.wp P S3 _ a w'
      refine Y8 (R:=Xc [Sh.d (.sl e)]×Zz) (r:=fin) (lp:=0) X1 hm (clC e) S3 dC (Kn:=fun _ _ _=>none) (K:=Xa g [.d (.sl e)]) (fun s h a w' hk _=>by cases hk) (fun ex hex => ?_) hs ?_
      · cases ex with
        | norm=>exact absurd rfl hex
        | exit i=>exact Ow i
        | ret=>exact hret .ret (by simp)
      · simp [clB,clC,run,evO,Yz,B4,gop,Xu,El,M5,P2,R7,Xn,Xa,resAll,Hp,Hp.resFin,Hp.ovOwn,N6,V8,Ghost.resolve,setP,J0,M1,Tz,prj,Og,Pq,Tf,Wq,Ps,s0,g,fin,hx]
end
end Go.Proofs.YtjobjooccgledaaGreatDoor.Ghost
namespace Go.Proofs.YtjobjooccgledaaGreatDoor.Ghost
open Go
section
variable {P:Program}
def AB2 (P:Program) (gf:FuncId):Prop:=Y2 P gf=true∧∀ (n:Nat) (w:World),n≤2097152→Go.Calls P gf #[.slice none 0 0,.int .i64 n] w (fun en w' =>
  (en=.returned (.slice none 0 0)∧w'=w)∨∃ c cs T,en=.returned (.slice (some ⟨w.heap.size,0,none⟩) 0 c)∧Array.size cs=c∧w'=w.drew.alloc (.cells cs T))
def ACe (P:Program) (gf:FuncId) (j d:Nat) (o:Oper):Bool:=(match o.op with
  | .call c=>(match c.callee with | .value g=>Xp (.f gf) g | _=>false) && (match c.args.toList with | [.const (.slice none 0 0),.tmp i]=>Nat.beq i j | _=>false)
  | _=>false) && o.guard.isNone && (match o.dst with | some x=>Nat.beq x d | none=>false)
theorem St.drew {B:Nat} {w0:Y6} {A:Nat→Prop} {ρ:Xf} {own:Nat→Option Nat} {w:World} {h:Nat→Obj} (st:St B w0 A ρ own w h):St B w0 A ρ own w.drew h :=
  { objs:=fun g=>Vn.mono (w:=w) (w':=w.drew) (fun _ h=>h) (fun _ _ h=>h) (fun _ _=>rfl) (fun _ h=>h) (fun h=>h) (st.objs g),apart:=st.apart,old:=st.old,oldO:=st.oldO,base:=st.base,below:=st.below.drew,hB:=st.hB,imm:=st.imm,names:=st.names,glob:=Yq.mono (w:=w) (w':=w.drew) (fun _ h=>h) (fun _ _=>rfl) st.glob }
theorem AJw {o:Oper} {a:Act} {w:World} {B:Nat} {w0:Y6} {A:Nat→Prop} {ρ:Xf} {own:Nat→Option Nat} {h:Nat→Obj} {s:Nat→SV} (st:St B w0 A ρ own w h) (hs:Xh A ρ w s a) {gf:FuncId} (hg:AB2 P gf) {j d:Nat} (hc:ACe P gf j d o=true) {k:Nat} (hk:h k=.none)
    {n:Nat} (hn:s j=.dat (.int .i64) (n:Int) []) (hle:n≤2097152):Zw P o a w B w0 A ρ (.dat (.sl (.int .i64)) [] [([],some k)]) (X7 h [(k,.arr (.int .i64) [])])∧o.guard=none∧o.dst=some d:=by
  unfold ACe at hc
  simp only [Bool.and_eq_true] at hc
  obtain ⟨⟨hc,hgd⟩,hd⟩:=hc
  split at hc
  case h_2=>cases hc
  rename_i c ho
  simp only [Bool.and_eq_true] at hc
  obtain ⟨hf,hargs⟩:=hc
  split at hf
  case h_2=>cases hf
  rename_i g hcal
  split at hargs
  case h_2=>cases hargs
  rename_i i hargs'
  have hij:=Nat.eq_of_beq_eq_true hargs
  subst hij
  refine ⟨?_,by simpa using hgd,?_⟩
  · have k1:=X4 hs hf
    simp only [evO,Zl] at k1
    obtain ⟨capv,hgv,k3⟩:=k1
    simp only [Zs] at k3
    subst k3
    have kj:=hs i
    rw [hn] at kj
    have kj:=Hx kj
    have hex:=Ag (P:=P) (w:=w) ho hcal hgv hg.1
    have hav:c.args.map a.eval ++ #[] = #[.slice none 0 0,.int .i64 n]:=by
      rw [Array.append_empty,← Array.toList_inj,Array.toList_map,hargs']
      simp only [List.map_cons,List.map_nil,kj]
      rfl
    intro next Q K
    unfold Oper.wp
    rw [hex,Oper.upon_enter,hav]
    refine Calls.mono (hg.2 n w hle) (fun en w' he => ?_)
    rcases he with ⟨rfl,rfl⟩ | ⟨c,cs,T,rfl,hcs,rfl⟩
    · obtain ⟨st2,l2⟩:=st.nil (k:=k) (e:=.int .i64) hk (by decide)
      exact K _ _ _ _ _ st2 l2 (Rn rfl Iz)
    · obtain ⟨st2,l2⟩:=st.drew.array (k:=k) (e:=.int .i64) (l:=[]) (cs:=cs) (T:=T) (c:=c) hk (by decide) (Nat.zero_le _) (by rw [hcs]; show c=c * 1; omega) (fun i hi=>absurd hi (Nat.not_lt_zero i))
      refine K _ _ _ _ _ st2 ⟨l2.hA,l2.hρ,fun b hb => ?_⟩ (Rn rfl Mq)
      exact l2.hw b hb
  · split at hd
    · rename_i x hx; rw [hx,Nat.eq_of_beq_eq_true hd]
    · cases hd
def AR7:Cd:=.reg false [⟨some 2,.move (.c (.sl (.int .i64)) []),none,[],[]⟩]
def AR8:Cd:=.reg false [⟨some 3,.move (.c (.int .i64) (0:Int)),none,[],[]⟩]
def AHz:Cd:=.seq (.reg false [⟨some 9,.move (.t 0),none,[],[]⟩,⟨some 10,.len (.t 9),none,[],[]⟩,⟨some 11,.move (.c (.int .i64) (0:Int)),none,[],[]⟩])
  (.block 0 (.loop (.seq (.seq (.reg false [⟨some 12,.bin .lss (.t 11) (.t 10),none,[],[]⟩]) (.seq (.cond (.t 12) (.seq (.tidy [12] [] [] none) (.skip)) (.seq (.tidy [12] [] [] none) (.exit 0))) (.seq (.block 1 (.seq (.seq (.reg false [⟨some 13,.index (.sl (.sl (.int .i64))) (.t 9) (.t 11),none,[],[]⟩,⟨some 14,.load (.d (.sl (.int .i64))) (.t 13),none,[],[]⟩,⟨some 5,.move (.t 14),none,[],[]⟩]) (.tidy [13,14] [] [] none)) (.seq (.seq (.reg false [⟨some 15,.move (.t 3),none,[],[]⟩,⟨some 16,.move (.t 5),none,[],[]⟩,⟨some 17,.len (.t 16),none,[],[]⟩,⟨some 18,.bin .add (.t 15) (.t 17),none,[],[]⟩,⟨some 3,.move (.t 18),none,[],[]⟩]) (.tidy [15,16,17,18] [] [] none)) (.seq (.seq (.reg false [⟨some 19,.move (.t 3),none,[],[]⟩,⟨some 20,.bin .lss (.t 19) (.c (.int .i64) (0:Int)),none,[],[]⟩]) (.tidy [19] [] [] none)) (.cond (.t 20) (.seq (.tidy [20] [] [] none) (.seq (.reg false [⟨some 21,.fail,none,[],[]⟩,⟨none,.fail,none,[],[]⟩]) (.tidy [21] [] [] none))) (.seq (.tidy [20] [] [] none) (.skip))))))) (.seq (.reg false [⟨some 22,.bin .add (.t 11) (.c (.int .i64) (1:Int)),none,[],[]⟩,⟨some 11,.move (.t 22),none,[],[]⟩]) (.tidy [22] [] [] none))))) (.tidy [5] [] [] (some 0)))))
def BG6:Cd:=.seq (.tidy [23,24] [] [] none) (.seq (.seq (.reg false [⟨some 25,.move (.t 0),none,[],[]⟩,⟨some 26,.len (.t 25),none,[],[]⟩,⟨some 27,.move (.c (.int .i64) (0:Int)),none,[],[]⟩])
  (.block 2 (.loop (.seq (.seq (.reg false [⟨some 28,.bin .lss (.t 27) (.t 26),none,[],[]⟩]) (.seq (.cond (.t 28) (.seq (.tidy [28] [] [] none) (.skip)) (.seq (.tidy [28] [] [] none) (.exit 2))) (.seq (.block 3 (.seq (.seq (.reg false [⟨some 29,.index (.sl (.sl (.int .i64))) (.t 25) (.t 27),none,[],[]⟩,⟨some 30,.load (.d (.sl (.int .i64))) (.t 29),none,[],[]⟩,⟨some 8,.move (.t 30),none,[],[]⟩]) (.tidy [29,30] [] [] none)) (.seq (.reg false [⟨some 31,.move (.t 6),none,[],[]⟩,⟨some 32,.move (.t 8),none,[],[]⟩,⟨some 33,.append 0 (.int .i64) (.t 31) (.t 32),none,[],[]⟩,⟨some 6,.move (.t 33),none,[],[]⟩]) (.tidy [31,32,33] [] [] none)))) (.seq (.reg false [⟨some 34,.bin .add (.t 27) (.c (.int .i64) (1:Int)),none,[],[]⟩,⟨some 27,.move (.t 34),none,[],[]⟩]) (.tidy [34] [] [] none))))) (.tidy [8] [(0,1)] [] (some 2))))))
  (.seq (.seq (.reg false [⟨some 35,.move (.t 6),none,[],[]⟩,⟨some 2,.move (.t 35),none,[],[]⟩]) (.tidy [35] [] [] none)) (.ret)))
def AR9 (P:Program) (f gf:FuncId):Bool:=match P.funcs[f]? with
  | some fn => fn.name != "runtime.NumGoroutine" && Rs P [.tmp 2] fn.results.toList && (match fn.body with
    | some (.seq R0 (.seq R1 (.seq L1 (.seq (.region _ ops false) S))))=>Ju P (1+(fn.ntmps - 1)) AR7 R0 && Ju P (1+(fn.ntmps - 1)) AR8 R1 && Ju P (1+(fn.ntmps - 1)) AHz L1 && Ju P (1+(fn.ntmps - 1)) BG6 S && Nat.blt 35 (1+(fn.ntmps - 1)) && (match ops.toList with
      | [o0,o1,o2]=>Kw P (1+(fn.ntmps - 1)) ops ⟨some 23,.move (.t 3),none,[],[]⟩ o0 && ACe P gf 23 24 o1 && Kw P (1+(fn.ntmps - 1)) ops ⟨some 6,.move (.t 24),none,[],[]⟩ o2
      | _=>false)
    | _=>false)
  | none=>false
abbrev AMd (a b:List Int):den (.sl (.sl (.int .i64))):=[a,b]
def M4 (a b:List Int):Int:=IntKind.wrap .i64 (IntKind.wrap .i64 (0+((List.length a:Nat):Int))+((List.length b:Nat):Int))
def Rb (a b:List Int):Xk:=[(0,.dat (.sl (.sl (.int .i64))) (AMd a b) []),(2,.dat (.sl (.int .i64)) [] []),(3,.dat (.int .i64) (M4 a b) []),(9,.dat (.sl (.sl (.int .i64))) (AMd a b) []),(10,.dat (.int .i64) (2:Int) []),(11,.dat (.int .i64) (2:Int) [])]
def AMe (a b:List Int):Xk:=[(0,.dat (.sl (.sl (.int .i64))) (AMd a b) []),(2,.dat (.sl (.int .i64)) [] []),(3,.dat (.int .i64) (0:Int) [])]
theorem AMc (a b:List Int):run Yl 4 AHz (fun _ s h=>some (s,h)) (fun _ _ _=>none) (AMe a b) [] =
    bif decide (IntKind.wrap .i64 (0+((List.length a:Nat):Int))<0) then none else bif decide (M4 a b<0) then none else some (Rb a b,[]):=by kernel_rfl
theorem AMf (a b:List Int):run Yl 4 BG6 (fun _ _ _=>none) (Xa ⟨1,[.tmp 2],.skip⟩ [.d (.sl (.int .i64))]) (Rb a b ++ [(23,.dat (.int .i64) (M4 a b) []),(24,.dat (.sl (.int .i64)) [] [([],some 1)]),(6,.dat (.sl (.int .i64)) [] [([],some 1)])]) [.none,.arr (.int .i64) []] =
    (if 0+List.length a≤1048576 then if List.length (([]:List Int) ++ a)+List.length b≤1048576 then some (((([]:List Int) ++ a) ++ b,()),[(0,[])]) else none else none):=by kernel_rfl
theorem AI9 (hm:P.follows .mixedOrders=true) {f gf:FuncId} (hc:AR9 P f gf=true) (hg:AB2 P gf) {la lb:List Int} (ha:List.length la≤524288) (hb:List.length lb≤524288) {w:World} {A:Nat→Prop} {vs:List Value} (hA:∀ b,A b→b<w.heap.size) (hgl:Yq A w)
    (hr:Zs A (fun _=>none) w [.dat (.sl (.sl (.int .i64))) (AMd la lb) []] vs):Y2 P f=true∧Go.Calls P f vs.toArray w (fun en w'=>∃ vals,en=.returned (Je vals)∧Ht A w w' [.dat (.sl (.int .i64)) (la ++ lb) []] [(0,[])] vals):=by
  unfold AR9 at hc
  cases hf:P.funcs[f]? with
  | none=>rw [hf] at hc; cases hc
  | some fn =>
    rw [hf] at hc
    simp only [Bool.and_eq_true] at hc
    obtain ⟨⟨c1,c2⟩,c3⟩:=hc
    split at c3
    case h_2=>cases c3
    rename_i R0 R1 L1 rid ops S hbd
    simp only [Bool.and_eq_true,Nat.blt_eq] at c3
    obtain ⟨⟨⟨⟨⟨d0,d1⟩,dL⟩,dS⟩,d4⟩,dO⟩:=c3
    split at dO
    case h_2=>cases dO
    rename_i o0 o1 o2 hops
    simp only [Bool.and_eq_true] at dO
    obtain ⟨⟨e0,e1⟩,e2⟩:=dO
    refine ⟨by unfold Y2; rw [hf]; simp only [c1,hbd]; rfl,?_⟩
    have i0:ops[0]?=some o0:=by rw [← Array.getElem?_toList,hops]; rfl
    have i1:ops[1]?=some o1:=by rw [← Array.getElem?_toList,hops]; rfl
    have i2:ops[2]?=some o2:=by rw [← Array.getElem?_toList,hops]; rfl
    have hsz:ops.size=3:=by rw [← Array.length_toList,hops]; rfl
    refine calls_of_wp hf hbd ?_
    let fin:Xc [Sh.d (.sl (.int .i64))]×Zz:=((la ++ lb,()),[(0,[])])
    let g:Fn:=⟨1,[.tmp 2],.skip⟩
    have hret:=ADa (P:=P) (N:=1+(fn.ntmps - 1)) (w:=w) (A:=A) (fn:=fn) (g:=g) (res:=[.d (.sl (.int .i64))]) (r:=fin) c2
    have h0:=C9 (n:=1) (k:=fn.ntmps) hA hgl hr rfl
    have hn1:IntKind.wrap .i64 (0+((List.length la:Nat):Int))=((List.length la:Nat):Int):=by
      rw [Int.zero_add]
      show (if (true && decide (((List.length la:Nat):Int) % (2 ^ 64:Int) ≥ (2 ^ 63:Int)))=true then ((List.length la:Nat):Int) % (2 ^ 64:Int) - (2 ^ 64:Int) else ((List.length la:Nat):Int) % (2 ^ 64:Int))=_
      rw [decide_eq_false (by omega)]; simp only [Bool.and_false,Bool.false_eq_true,if_false]; omega
    have hn2:M4 la lb=((List.length la+List.length lb:Nat):Int):=by
      unfold M4
      rw [hn1]
      show (if (true && decide ((((List.length la:Nat):Int)+((List.length lb:Nat):Int)) % (2 ^ 64:Int) ≥ (2 ^ 63:Int)))=true then (((List.length la:Nat):Int)+((List.length lb:Nat):Int)) % (2 ^ 64:Int) - (2 ^ 64:Int) else (((List.length la:Nat):Int)+((List.length lb:Nat):Int)) % (2 ^ 64:Int))=_
      rw [decide_eq_false (by omega)]; simp only [Bool.and_false,Bool.false_eq_true,if_false]; omega
    have hA1:run Yl 4 AHz (fun _ s h=>some (s,h)) (fun _ _ _=>none) (AMe la lb) []=some (Rb la lb,[]):=by
      rw [AMc,hn1,hn2,decide_eq_false (by omega),decide_eq_false (by omega)]; rfl
    refine wp_seq (Y8 (R:=Xk×Yj) (r:=([(0,.dat (.sl (.sl (.int .i64))) (AMd la lb) []),(2,.dat (.sl (.int .i64)) [] [])],[])) (lp:=0) X1 hm AR7 R0 d0 (Kn:=fun _ s h=>some (s,h)) (K:=fun _ _ _=>none) (fun s h a w' hk hs => ?_) (fun _ _ s h a w' hk _=>by cases hk) h0 rfl)
    simp only [Option.some.injEq,Prod.mk.injEq] at hk
    obtain ⟨rfl,rfl⟩:=hk
    refine wp_seq (Y8 (R:=Xk×Yj) (r:=(AMe _ _,[])) (lp:=0) X1 hm AR8 R1 d1 (Kn:=fun _ s h=>some (s,h)) (K:=fun _ _ _=>none) (fun s h a1 w1 hk hs => ?_) (fun _ _ s h a w' hk _=>by cases hk) hs rfl)
    simp only [Option.some.injEq,Prod.mk.injEq] at hk
    obtain ⟨rfl,rfl⟩:=hk
    refine wp_seq (Y8 (R:=Xk×Yj) (r:=(Rb _ _,[])) (lp:=4) X1 hm AHz L1 dL (Kn:=fun _ s h=>some (s,h)) (K:=fun _ _ _=>none) (fun s h a2 w2 hk hs => ?_) (fun _ _ s h a w' hk _=>by cases hk) hs hA1)
    simp only [Option.some.injEq,Prod.mk.injEq] at hk
    obtain ⟨rfl,rfl⟩:=hk
    refine wp_seq (wp_region ?_)
    rw [hsz,List.range_eq_range']
    show wpOps P ops _ [0,1,2] a2 w2
    rw [wpOps_cons]
    refine Rp (draw:=false) i0 hs X1 e0 (v:=.dat (.int .i64) (M4 _ _) []) (e:=[]) ⟨(fun h=>by cases h),rfl⟩ (fun a3 w3 hs3 => ?_)
    rw [wpOps_cons]
    obtain ⟨A3,ρ3,own3,st3,sl3,sz3,df3⟩:=hs3
    obtain ⟨og,ogd,od⟩:=AJw st3 sl3 hg e1 (k:=1) rfl (by rw [hn2]; rfl) (by omega)
    unfold wpOp
    simp only [i1,Region.wanted,ogd,if_true]
    refine .inl (og _ _ (fun v' w4 A4 ρ4 own4 st4 l4 hv4 => ?_))
    rw [od,wpOps_cons]
    have hh:∀ i,X7 (X7 (Xn []) []) [(1,Obj.arr (.int .i64) [])] i=Xn [.none,.arr (.int .i64) []] i:=fun i=>by
      rcases i with _ | _ | i <;> rfl
    have hs4:Is (1+(fn.ntmps - 1)) w.heap.size ⟨w,A⟩ (Xu (Rb la lb ++ [(23,.dat (.int .i64) (M4 la lb) []),(24,.dat (.sl (.int .i64)) [] [([],some 1)])])) (Xn [.none,.arr (.int .i64) []]) (a3.put (some 24) v') w4:=by
      refine ⟨A4,ρ4,own4,?_,?_,by rw [Kl]; exact sz3,by rw [Q3]; exact df3⟩
      · rw [show Xn [Obj.none,.arr (.int .i64) []]=_ from (funext hh).symm]; exact st4
      · have:=Xh.put (d:=some 24) (v:=.dat (.sl (.int .i64)) [] [([],some 1)]) (v':=v') sl3 l4 (fun i hi=>by cases hi; rw [sz3]; omega) hv4
        intro i
        have h1:=this i
        have he:Xu (Rb la lb ++ [(23,.dat (.int .i64) (M4 la lb) []),(24,.dat (.sl (.int .i64)) [] [([],some 1)])]) i=T7 (T7 (Xu (Rb la lb)) (some 23) (.dat (.int .i64) (M4 la lb) [])) (some 24) (.dat (.sl (.int .i64)) [] [([],some 1)]) i:=by
          rw [show (Rb la lb ++ [(23,.dat (.int .i64) (M4 la lb) []),(24,.dat (.sl (.int .i64)) [] [([],some 1)])]:Xk)=M5 (M5 (Rb la lb) 23 (.dat (.int .i64) (M4 la lb) [])) 24 (.dat (.sl (.int .i64)) [] [([],some 1)]) from rfl,Pi,Pi]
          unfold T7
          simp only [Option.some.injEq]
        rw [he]; exact h1
    refine Rp (draw:=false) i2 hs4 X1 e2 (v:=.dat (.sl (.int .i64)) [] [([],some 1)]) (e:=[]) ⟨(fun h=>by cases h),rfl⟩ (fun a5 w5 hs5 => ?_)
    simp only [wpOps]
    show Code.wp P S _ a5 w5
    have hs6:Is (1+(fn.ntmps - 1)) w.heap.size ⟨w,A⟩ (Xu (Rb la lb ++ [(23,.dat (.int .i64) (M4 la lb) []),(24,.dat (.sl (.int .i64)) [] [([],some 1)]),(6,.dat (.sl (.int .i64)) [] [([],some 1)])])) (Xn [.none,.arr (.int .i64) []]) a5 w5:=by
      obtain ⟨A5,ρ5,own5,st5,sl5,sz5,df5⟩:=hs5
      refine ⟨A5,ρ5,own5,st5,fun i => ?_,sz5,df5⟩
      have h1:=sl5 i
      have he:Xu (Rb la lb ++ [(23,.dat (.int .i64) (M4 la lb) []),(24,.dat (.sl (.int .i64)) [] [([],some 1)]),(6,.dat (.sl (.int .i64)) [] [([],some 1)])]) i=T7 (Xu (Rb la lb ++ [(23,.dat (.int .i64) (M4 la lb) []),(24,.dat (.sl (.int .i64)) [] [([],some 1)])])) (some 6) (.dat (.sl (.int .i64)) [] [([],some 1)]) i:=by
        rw [show (Rb la lb ++ [(23,.dat (.int .i64) (M4 la lb) []),(24,.dat (.sl (.int .i64)) [] [([],some 1)]),(6,.dat (.sl (.int .i64)) [] [([],some 1)])]:Xk)=M5 (Rb la lb ++ [(23,.dat (.int .i64) (M4 la lb) []),(24,.dat (.sl (.int .i64)) [] [([],some 1)])]) 6 (.dat (.sl (.int .i64)) [] [([],some 1)]) from rfl,Pi]
        unfold T7
        simp only [Option.some.injEq]
      rw [he]; exact h1
    refine Y8 (R:=Xc [Sh.d (.sl (.int .i64))]×Zz) (r:=fin) (lp:=4) X1 hm BG6 S dS (Kn:=fun _ _ _=>none) (K:=Xa g [.d (.sl (.int .i64))]) (fun s h a w' hk _=>by cases hk) (fun ex hex => ?_) hs6 ?_
    · cases ex with
      | norm=>exact absurd rfl hex
      | exit i=>exact Ow i
      | ret=>exact hret .ret (by simp)
    · rw [AMf,if_pos (by omega),if_pos (by rw [List.nil_append]; omega),List.nil_append]
end
end Go.Proofs.YtjobjooccgledaaGreatDoor.Ghost
