/- Rules for what a function comes to. Conditions: none. -/
import Derived.Test.YtjobjooccgledaaGreatDoorA1
import Derived.Test.YtjobjooccgledaaGreatDoorA4
set_option linter.unusedVariables false
set_option linter.unusedSimpArgs false
set_option linter.unusedSectionVars false
set_option linter.unnecessarySimpa false
namespace Go.Proofs.YtjobjooccgledaaGreatDoor.Ghost
open Go
def Zd {R:Type} (F:Nat→Nat→Nat→Nat→Option R) (Q:R→Prop):Prop:=∃ v,Q v∧∃ N,∀ n m k j,N≤n→N≤m→N≤k→N≤j→F n m k j=some v
section
variable {R S:Type} {Q Q':R→Prop}
theorem Zd.ret {v:R} (h:Q v):Zd (fun _ _ _ _=>some v) Q:=⟨v,h,0,fun _ _ _ _ _ _ _ _=>rfl⟩
theorem Zd.bind {F:Nat→Nat→Nat→Nat→Option S} {G:S→Nat→Nat→Nat→Nat→Option R} {Q1:S→Prop} (h:Zd F Q1) (k:∀ v,Q1 v→Zd (fun n m k j=>G v n m k j) Q):Zd (fun n m k j=>Option.bind (F n m k j) (fun v=>G v n m k j)) Q:=by
  obtain ⟨v,h1,N,h2⟩:=h
  obtain ⟨u,h3,M,h4⟩:=k v h1
  refine ⟨u,h3,max N M,fun n m k j a b c d => ?_⟩
  show Option.bind (F n m k j) (fun v=>G v n m k j)=some u
  rw [h2 n m k j (by omega) (by omega) (by omega) (by omega)]
  exact h4 n m k j (by omega) (by omega) (by omega) (by omega)
theorem Zd.bif {c:Bool} {A B:Nat→Nat→Nat→Nat→Option R} (ht:c=true→Zd A Q) (hf:c=false→Zd B Q):Zd (fun n m k j=>bif c then A n m k j else B n m k j) Q:=by
  cases c with
  | true=>exact ht rfl
  | false=>exact hf rfl
theorem Zd.bifN {c:Bool} {A B:Nat→Nat→Nat→Nat→Option R} (hf:c=true→Zd B Q) (ht:c=false→Zd A Q):Zd (fun n m k j=>bif (!c) then A n m k j else B n m k j) Q:=by
  cases c with
  | true=>exact hf rfl
  | false=>exact ht rfl
theorem Zd.bifT {c:Bool} {A B:Nat→Nat→Nat→Nat→Option R} (hc:c=true) (ht:Zd A Q):Zd (fun n m k j=>bif c then A n m k j else B n m k j) Q:=by
  subst hc; exact ht
theorem Zd.bifF {c:Bool} {A B:Nat→Nat→Nat→Nat→Option R} (hc:c=false) (ht:Zd B Q):Zd (fun n m k j=>bif c then A n m k j else B n m k j) Q:=by
  subst hc; exact ht
theorem Zd.ite {p:Prop} [Decidable p] {A B:Nat→Nat→Nat→Nat→Option R} (hp:p) (h:Zd A Q):Zd (fun n m k j=>if p then A n m k j else B n m k j) Q:=by
  obtain ⟨v,h1,N,h2⟩:=h
  exact ⟨v,h1,N,fun n m k j a b c d=>(if_pos hp).trans (h2 n m k j a b c d)⟩
theorem Zd.succ {F G:Nat→Nat→Nat→Nat→Option R} (e:∀ n m k j,F (n+1) m k j=G n m k j) (h:Zd G Q):Zd F Q:=by
  obtain ⟨v,h1,N,h2⟩:=h
  refine ⟨v,h1,N+1,fun n m k j a b c d => ?_⟩
  obtain ⟨n',rfl⟩:∃ n',n=n'+1:=⟨n - 1,by omega⟩
  rw [e]
  exact h2 n' m k j (by omega) (by omega) (by omega) (by omega)
theorem Zd.succ1 {F G:Nat→Nat→Nat→Nat→Option R} (e:∀ n m k j,F n (m+1) k j=G n m k j) (h:Zd G Q):Zd F Q:=by
  obtain ⟨v,h1,N,h2⟩:=h
  refine ⟨v,h1,N+1,fun n m k j a b c d => ?_⟩
  obtain ⟨m',rfl⟩:∃ m',m=m'+1:=⟨m - 1,by omega⟩
  rw [e]
  exact h2 n m' k j (by omega) (by omega) (by omega) (by omega)
theorem Zd.succ2 {F G:Nat→Nat→Nat→Nat→Option R} (e:∀ n m k j,F n m (k+1) j=G n m k j) (h:Zd G Q):Zd F Q:=by
  obtain ⟨v,h1,N,h2⟩:=h
  refine ⟨v,h1,N+1,fun n m k j a b c d => ?_⟩
  obtain ⟨k',rfl⟩:∃ k',k=k'+1:=⟨k - 1,by omega⟩
  rw [e]
  exact h2 n m k' j (by omega) (by omega) (by omega) (by omega)
theorem Zd.enter {F:Nat→Nat→Nat→Nat→Option R} (h:Zd F Q):Zd (fun n _ k j=>F n n k j) Q:=by
  obtain ⟨v,h1,N,h2⟩:=h
  exact ⟨v,h1,N,fun n _ k j a _ c d=>h2 n n k j a a c d⟩
theorem Zd.enter1 {F:Nat→Nat→Nat→Nat→Option R} (h:Zd F Q):Zd (fun n m _ j=>F n m n j) Q:=by
  obtain ⟨v,h1,N,h2⟩:=h
  exact ⟨v,h1,N,fun n m _ j a b _ d=>h2 n m n j a b a d⟩
theorem Zd.call {F:Nat→Option S} {G:S→Nat→Nat→Nat→Nat→Option R} {Q1:S→Prop} (h:Zd (fun n _ _ _=>F n) Q1) (k:∀ v,Q1 v→Zd (fun n m k j=>G v n m k j) Q):Zd (fun n m k j=>Option.bind (F n) (fun v=>G v n m k j)) Q:=Zd.bind h k
theorem Zd.mono {F:Nat→Nat→Nat→Nat→Option R} (h:Zd F Q) (hq:∀ v,Q v→Q' v):Zd F Q':=by
  obtain ⟨v,h1,h2⟩:=h
  exact ⟨v,hq v h1,h2⟩
theorem Zd.both {F:Nat→Nat→Nat→Nat→Option R} (h:Zd F Q) (h':Zd F Q'):Zd F (fun v=>Q v∧Q' v):=by
  obtain ⟨v,h1,N,h2⟩:=h
  obtain ⟨u,h3,M,h4⟩:=h'
  have e:v=u:=by
    have a:=h2 (max N M) (max N M) (max N M) (max N M) (by omega) (by omega) (by omega) (by omega)
    have b:=h4 (max N M) (max N M) (max N M) (max N M) (by omega) (by omega) (by omega) (by omega)
    rw [a] at b; cases b; rfl
  subst e
  exact ⟨v,⟨h1,h3⟩,N,h2⟩
end
theorem Hr {n:Int} (h0 : -9223372036854775808≤n) (h1:n<9223372036854775808):IntKind.wrap .i64 n=n:=by
  show (if (true && decide (n % (2 ^ 64:Int) ≥ (2 ^ 63:Int)))=true then n % (2 ^ 64:Int) - (2 ^ 64:Int) else n % (2 ^ 64:Int))=n
  by_cases h:n % (2 ^ 64:Int) ≥ (2 ^ 63:Int)
  · rw [decide_eq_true h]; simp only [Bool.and_self,if_true]; omega
  · rw [decide_eq_false h]; simp only [Bool.and_false,Bool.false_eq_true,if_false]; omega
theorem Xm {i:Nat} (h:i<9223372036854775807):IntKind.wrap .i64 ((i:Int)+1)=((i+1:Nat):Int):=by
  rw [Hr (by omega) (by omega)]; omega
end Go.Proofs.YtjobjooccgledaaGreatDoor.Ghost
namespace Go.Proofs.YtjobjooccgledaaGreatDoor.Ghost
open Go
section
variable {cf cf':Calls} (hcf:∀ f as res r,cf f as res=some r→cf' f as res=some r)
include hcf
theorem AMa {h:Nat→Obj} {f:SV} {args:List SV} {res:List Sh} {keep:List ((Nat×Z8)×Nat)} {opt:Bool} {p:SV×Eff} (hg:Pg cf h f args res keep opt prE=some p):Pg cf' h f args res keep opt prE=some p:=by
  unfold Pg at hg ⊢
  split at hg
  · split at hg
    · rename_i as ids hl
      cases hc:cf _ as res with
      | none=>rw [hc] at hg; cases hg
      | some x =>
        rw [hc] at hg
        try simp only [hl]
        rw [hcf _ _ _ _ hc]
        exact hg
    · cases hg
  · cases hg
  · cases hg
theorem BHg {s:Nat→SV} {h:Nat→Obj} {g:GOp} {p:SV×Eff} (hg:gop cf s h g prE=some p):gop cf' s h g prE=some p:=by
  cases g with
  | call f args res keep opt=>exact AMa hcf hg
  | _=>exact hg
theorem AE2 {R:Type} {s:Nat→SV} {h:Nat→Obj} {g:GOp} {K K':SV→Eff→Option R} {r:R} (hk:∀ v e,K v e=some r→K' v e=some r) (hg:gop cf s h g K=some r):gop cf' s h g K'=some r:=by
  obtain ⟨v,e,h1,h2⟩:=ACv hg
  rw [AE1,BHg hcf h2]
  exact hk v e h1
theorem Ei {R:Type} {d:Bool} {l:Ln} {s:Xk} {h:Yj} {K K':Xk→Yj→Option R} {r:R} (hk:∀ s h,K s h=some r→K' s h=some r) (hg:B4 cf d l s h K=some r):B4 cf' d l s h K'=some r:=by
  unfold B4 at hg ⊢
  cases d with
  | false=>exact AE2 hcf (fun v e=>hk _ _) hg
  | true =>
    refine AE2 hcf (fun v e hh => ?_) hg
    split at hh
    · exact hk _ _ hh
    · cases hh
theorem Dp {R:Type} {d:Bool} {r:R} {K K':Xk→Yj→Option R} (hk:∀ s h,K s h=some r→K' s h=some r):(ls:List Ln)→{s:Xk}→{h:Yj}→Yz cf d ls s h K=some r→Yz cf' d ls s h K'=some r
  | [],s,h,hg=>hk _ _ hg
  | l :: ls,s,h,hg=>by
    have ih:=fun {s:Xk} {h:Yj}=>Dp (d:=d) hk ls (s:=s) (h:=h)
    unfold Yz at hg ⊢
    split at hg
    · rename_i hl
      try simp only [hl]
      exact Ei hcf (fun _ _=>ih) hg
    · rename_i j hl
      try simp only [hl]
      split at hg
      · rename_i b hb
        try simp only [hb]
        cases b with
        | true=>simp only [cond_true] at hg ⊢; exact Ei hcf (fun _ _=>ih) hg
        | false=>exact ih hg
      · rename_i hb
        try simp only [hb]
        exact ih hg
      · cases hg
    · rename_i j hl
      try simp only [hl]
      split at hg
      · rename_i b hb
        try simp only [hb]
        cases b with
        | true=>exact ih hg
        | false=>simp only [cond_false] at hg ⊢; exact Ei hcf (fun _ _=>ih) hg
      · rename_i hb
        try simp only [hb]
        exact ih hg
      · cases hg
end
section
variable {R:Type} {r:R} {K K':Xk→Yj→Option R} (hk:∀ s h,K s h=some r→K' s h=some r)
include hk
theorem N4:(mv:List (Nat×Nat))→{s:Xk}→{h:Yj}→L2 mv s h K=some r→L2 mv s h K'=some r
  | [],_,_,hg=>hk _ _ hg
  | (a,b) :: l,s,h,hg=>by
    simp only [L2,ANv] at hg ⊢
    split at hg
    · exact N4 l hg
    · split at hg
      · exact N4 l hg
      · cases hg
theorem Nr:(l:List Nat)→{s:Xk}→{h:Yj}→Nq l s h K=some r→Nq l s h K'=some r
  | [],_,_,hg=>hk _ _ hg
  | g :: l,s,h,hg=>by
    simp only [Nq] at hg ⊢
    split at hg
    · exact Nr l hg
    · split at hg
      · exact Nr l hg
      · cases hg
theorem AGc {n:Option Nat} {s:Xk} {h:Yj} (hg:Ew n s h K=some r):Ew n s h K'=some r:=by
  cases n with
  | none=>exact hk _ _ hg
  | some n =>
    simp only [Ew] at hg ⊢
    split at hg
    · exact hk _ _ hg
    · cases hg
end
theorem T1 {cf cf':Calls} (hcf:∀ f as res r,cf f as res=some r→cf' f as res=some r) {lp lp':Nat} (hlp:lp≤lp') {R:Type} {r:R}:(c:Cd)→{Kn Kn' K K':Kt R}→(∀ e s h,Kn e s h=some r→Kn' e s h=some r)→(∀ e s h,K e s h=some r→K' e s h=some r) →
    {s:Xk}→{h:Yj}→run cf lp c Kn K s h=some r→run cf' lp' c Kn' K' s h=some r
  | .skip,_,_,_,_,hn,hk,s,h,hg=>hn _ _ _ hg
  | .reg d l,_,_,_,_,hn,hk,s,h,hg=>by
    simp only [run] at hg ⊢
    exact Dp hcf (fun s h=>hn _ s h) l hg
  | .tidy kl mv dr tr,_,_,_,_,hn,hk,s,h,hg=>by
    simp only [run] at hg ⊢
    exact N4 (fun s h=>Nr (fun s h=>AGc (fun s h=>hn _ s h)) dr) mv hg
  | .frz ids,_,_,_,_,hn,hk,s,h,hg=>by
    simp only [run] at hg ⊢
    split at hg
    · exact hn _ _ _ hg
    · cases hg
  | .seq a b,_,_,_,_,hn,hk,s,h,hg=>by
    rw [run] at hg ⊢
    exact T1 hcf hlp a (fun _ s h hg=>T1 hcf hlp b hn hk hg) hk hg
  | .cond c a b,_,_,_,_,hn,hk,s,h,hg=>by
    rw [run] at hg ⊢
    split at hg
    · rename_i t _ ht
      cases t with
      | true=>exact T1 hcf hlp a hn hk hg
      | false=>exact T1 hcf hlp b hn hk hg
    · cases hg
  | .block id a,_,_,_,_,hn,hk,s,h,hg=>by
    rw [run] at hg ⊢
    refine T1 hcf hlp a hn (fun e s h hh => ?_) hg
    unfold Ja at hh ⊢
    cases e with
    | norm=>exact hk _ _ _ hh
    | ret=>exact hk _ _ _ hh
    | exit i =>
      simp only [] at hh ⊢
      split at hh
      · exact hn _ _ _ hh
      · exact hk _ _ _ hh
  | .loop a,_,_,K,K',hn,hk,s,h,hg=>by
    rw [run] at hg ⊢
    have key:∀ (m m':Nat) (s:Xk) (h:Yj),m≤m'→Lf (fun Kn K s h=>run cf lp a Kn K s h) m K s h=some r→Lf (fun Kn K s h=>run cf' lp' a Kn K s h) m' K' s h=some r:=by
      intro m
      induction m with
      | zero=>intro m' s h _ hg; simp [Lf] at hg
      | succ m ih =>
        intro m' s h hm hg
        obtain ⟨m'',rfl⟩:∃ m'',m'=m''+1:=⟨m' - 1,by omega⟩
        rw [Lf] at hg ⊢
        exact T1 hcf hlp a (fun _ s h hg=>ih m'' s h (by omega) hg) hk hg
    exact key lp lp' s h hlp hg
  | .exit id,_,_,_,_,hn,hk,s,h,hg=>hk _ _ _ hg
  | .ret,_,_,_,_,hn,hk,s,h,hg=>hk _ _ _ hg
theorem Bg {prog:FuncId→Option Fn} {sp:Calls}:(n m:Nat)→n≤m→∀ f as res r,Vy prog sp n f as res=some r→Vy prog sp m f as res=some r
  | 0,m,_,f,as,res,r,hg=>by simp [Vy] at hg
  | n+1,0,h,_,_,_,_,_=>by omega
  | n+1,m+1,h,f,as,res,r,hg=>by
    simp only [Vy] at hg ⊢
    cases hf:prog f with
    | none=>rw [hf] at hg; exact hg
    | some fn =>
      rw [hf] at hg
      simp only [] at hg ⊢
      split at hg
      · exact T1 (Bg n m (by omega)) (by omega) fn.body (fun _ _ _ h=>h) (fun _ _ _ h=>h) hg
      · cases hg
theorem Zd.one {prog:FuncId→Option Fn} {sp:Calls} {f:FuncId} {as:List SV} {res:List Sh} {Q:Xc res×Zz→Prop} (n:Nat) {r:Xc res×Zz} (h:Vy prog sp n f as res=some r) (hq:Q r):Zd (fun n _ _ _=>Vy prog sp n f as res) Q :=
  ⟨r,hq,n,fun m _ _ _ hm _ _ _=>Bg n m hm f as res r h⟩
end Go.Proofs.YtjobjooccgledaaGreatDoor.Ghost
namespace Go.Proofs.YtjobjooccgledaaGreatDoor.Ghost
open Go
section
variable {R S:Type} {Q:R→Prop}
theorem Zd.ex {F:Nat→Nat→Nat→Nat→Option R} {P:R→Prop} (h:Zd F P):∃ v,Zd F (fun r=>r=v):=by
  obtain ⟨v,_,N,hN⟩:=h
  exact ⟨v,v,rfl,N,hN⟩
noncomputable def lim (F:Nat→Nat→Nat→Nat→Option R) (h:∃ v,Zd F (fun r=>r=v)):R:=Classical.choose h
theorem Zd.val {F:Nat→Nat→Nat→Nat→Option R} {P:R→Prop} (h:Zd F P):Zd F (fun r=>r=lim F h.ex):=Classical.choose_spec h.ex
theorem Zd.prop {F:Nat→Nat→Nat→Nat→Option R} {P:R→Prop} (h:Zd F P):P (lim F h.ex):=by
  obtain ⟨v,⟨h1,h2⟩,_⟩:=h.both h.val
  rw [← h2]; exact h1
@[simp] theorem Gw {v:R}:Zd (fun _ _ _ _=>some v) Q↔Q v :=
  ⟨fun ⟨u,h,N,hN⟩=>(by have:=hN N N N N (Nat.le_refl N) (Nat.le_refl N) (Nat.le_refl N) (Nat.le_refl N); cases this; exact h),fun h=>Zd.ret h⟩
@[simp] theorem C0:Zd (fun _ _ _ _=>(none:Option R)) Q↔False :=
  ⟨fun ⟨u,h,N,hN⟩=>(by have:=hN N N N N (Nat.le_refl N) (Nat.le_refl N) (Nat.le_refl N) (Nat.le_refl N); cases this),fun h=>h.elim⟩
@[simp] theorem BIe {c:Bool} {A B:Nat→Nat→Nat→Nat→Option R}:Zd (fun n m k j=>bif c then A n m k j else B n m k j) Q↔(c=true→Zd A Q)∧(c=false→Zd B Q):=by
  cases c with
  | true=>exact ⟨fun h=>⟨fun _=>h,fun h=>by cases h⟩,fun h=>h.1 rfl⟩
  | false=>exact ⟨fun h=>⟨fun h=>(by cases h),fun _=>h⟩,fun h=>h.2 rfl⟩
@[simp] theorem AMm {p:Prop} [Decidable p] {A:Nat→Nat→Nat→Nat→Option R}:Zd (fun n m k j=>if p then A n m k j else none) Q↔p∧Zd A Q:=by
  by_cases hp:p
  · simp only [if_pos hp]; exact ⟨fun h=>⟨hp,h⟩,fun h=>h.2⟩
  · simp only [if_neg hp]; exact ⟨fun h=>(C0.1 h).elim,fun h=>absurd h.1 hp⟩
@[simp] theorem AMn {p:Prop} [Decidable p] {B:Nat→Nat→Nat→Nat→Option R}:Zd (fun n m k j=>if p then none else B n m k j) Q↔¬ p∧Zd B Q:=by
  by_cases hp:p
  · simp only [if_pos hp]; exact ⟨fun h=>(C0.1 h).elim,fun h=>absurd hp h.1⟩
  · simp only [if_neg hp]; exact ⟨fun h=>⟨hp,h⟩,fun h=>h.2⟩
theorem Ze {F:Nat→Nat→Nat→Nat→Option S} {G:S→Nat→Nat→Nat→Nat→Option R} {P:S→Prop} (h:Zd F P):Zd (fun n m k j=>Option.bind (F n m k j) (fun x=>G x n m k j)) Q↔Zd (G (lim F h.ex)) Q:=by
  constructor
  · rintro ⟨u,h1,M,hM⟩
    obtain ⟨x,hx,N,hN⟩:=h.val
    subst hx
    refine ⟨u,h1,max N M,fun n m k j a b c d => ?_⟩
    have e:Option.bind (F n m k j) (fun x=>G x n m k j)=some u:=hM n m k j (by omega) (by omega) (by omega) (by omega)
    rw [hN n m k j (by omega) (by omega) (by omega) (by omega)] at e
    exact e
  · intro hg
    exact Zd.bind h.val (fun v hv=>by subst hv; exact hg)
theorem Zd.add {F G:Nat→Nat→Nat→Nat→Option R} (c:Nat) (e:∀ n m k j,F (n+c) m k j=G n m k j) (h:Zd G Q):Zd F Q:=by
  obtain ⟨v,h1,N,h2⟩:=h
  refine ⟨v,h1,N+c,fun n m k j a b c' d => ?_⟩
  obtain ⟨n',rfl⟩:∃ n',n=n'+c:=⟨n - c,by omega⟩
  rw [e]
  exact h2 n' m k j (by omega) (by omega) (by omega) (by omega)
theorem Zd.shift {F:Nat→Nat→Nat→Nat→Option R} (h:Zd F Q) (c:Nat):Zd (fun n m k j=>F (n+c) m k j) Q:=by
  obtain ⟨v,h1,N,h2⟩:=h
  exact ⟨v,h1,N,fun n m k j a b c' d=>h2 (n+c) m k j (by omega) b c' d⟩
theorem upto {P:Nat→Prop} {len:Nat} (h0:P len) (hs:∀ i,i<len→P (i+1)→P i):∀ i,i≤len→P i:=by
  have key:∀ r i,i+r=len→P i:=by
    intro r
    induction r with
    | zero=>intro i h; rw [show i=len by omega]; exact h0
    | succ r ih=>intro i h; exact hs i (by omega) (ih (i+1) (by omega))
  exact fun i h=>key (len - i) i (by omega)
end
noncomputable def dec (p:Prop):Bool:=@decide p (Classical.propDecidable p)
@[simp] theorem Q4 {p:Prop}:dec p=true↔p:=⟨fun h=>@of_decide_eq_true p (Classical.propDecidable p) h,fun h=>@decide_eq_true p (Classical.propDecidable p) h⟩
@[simp] theorem Kc {p:Prop}:dec p=false↔¬ p:=⟨fun h hp=>absurd h (by rw [Q4.2 hp]; decide),fun h=>Bool.eq_false_iff.2 (fun e=>h (Q4.1 e))⟩
@[simp] theorem Rt {p q:Prop}:dec p=dec q↔(p↔q):=by
  constructor
  · intro h
    constructor
    · intro hp; exact Q4.1 (h ▸ Q4.2 hp)
    · intro hq; exact Q4.1 (h ▸ Q4.2 hq)
  · intro h; rw [show p=q from propext h]
@[simp] theorem BXo {p:Prop}:(!dec p)=dec (¬ p):=by
  by_cases h:p
  · rw [Q4.2 h,Kc.2 (fun hn=>hn h)]; rfl
  · rw [Kc.2 h,Q4.2 h]; rfl
theorem Gq {p:Prop} [Decidable p]:decide p=dec p:=by
  by_cases h:p
  · rw [Q4.2 h,decide_eq_true h]
  · rw [Kc.2 h,decide_eq_false h]
@[simp] theorem AMq:dec True=true:=Q4.2 trivial
@[simp] theorem AJd:dec False=false:=Kc.2 id
@[simp] theorem BXe {a b:Bool}:eqT .bool a b=(a == b):=rfl
theorem Zd.bprop {F:Nat→Nat→Nat→Nat→Option (Xc [.d .bool]×Zz)} {P:Prop} (h:Zd F (fun r=>r.1.1=true↔P)):(lim F h.ex).1.1=dec P:=by
  have:=h.prop
  by_cases hp:P
  · rw [this.2 hp,Q4.2 hp]
  · rw [Kc.2 hp]; exact Bool.eq_false_iff.2 (fun e=>hp (this.1 e))
end Go.Proofs.YtjobjooccgledaaGreatDoor.Ghost
