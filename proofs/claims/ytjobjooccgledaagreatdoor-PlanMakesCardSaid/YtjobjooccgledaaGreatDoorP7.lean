/- What functions come to, and that the statements are answered with 'true'. Conditions: none. -/
import Derived.Test.YtjobjooccgledaaGreatDoorS
import Derived.Test.YtjobjooccgledaaGreatDoorGE
import Derived.Test.YtjobjooccgledaaGreatDoorP1
import Derived.Test.YtjobjooccgledaaGreatDoorP2
import Derived.Test.YtjobjooccgledaaGreatDoorP3
import Derived.Test.YtjobjooccgledaaGreatDoorP4
import Derived.Test.YtjobjooccgledaaGreatDoorP5
import Derived.Test.YtjobjooccgledaaGreatDoorP6
set_option linter.unusedVariables false
set_option linter.unusedSimpArgs false
set_option linter.unusedSectionVars false
set_option linter.unnecessarySimpa false
namespace Go.Proofs.YtjobjooccgledaaGreatDoor.Ghost
open Go
abbrev Cm:=den Z6
abbrev Xo (c:Cm):Int:=c.1
abbrev Pf (c:Cm):Int:=c.2.1
abbrev Yt (c:Cm):Int:=c.2.2.1
abbrev G9 (c:Cm):Int:=c.2.2.2.1
abbrev Gf (c:Cm):Int:=c.2.2.2.2.1
abbrev Xl (c:Cm):List Int:=c.2.2.2.2.2.1
abbrev Us (c:Cm):Int:=c.2.2.2.2.2.2.1
abbrev Xr (c:Cm):List Int:=c.2.2.2.2.2.2.2.1
abbrev Ur (c:Cm):Int:=c.2.2.2.2.2.2.2.2.1
def Gr (n:Int) (has:Prop):Prop:=(has→0≤n∧n≤1073741824)∧(¬ has→n=0)
def Fg (l:List Int) (has:Prop):Prop:=(has→(∀ i,i<l.length→0≤List.getD l i 0∧List.getD l i 0≤1073741824)∧l.length≤16)∧(¬ has→l=[])
structure M3 (c:Cm):Prop where
  k1:1≤Xo c
  k2:Xo c≤10
  d1:0≤Pf c
  d2:Pf c≤3
  d3:¬ Pf c=0→Xo c≤2
  item:Gr (Yt c) (3≤Xo c∧Xo c≤7)
  box:Gr (G9 c) (Xo c=5∨Xo c=6)
  who:Gr (Gf c) (Xo c=2∨Xo c=7∨Xo c=8)
  pay:Gr (Us c) (Xo c=8)
  fee:Gr (Ur c) (Xo c=8)
  gives:Fg (Xl c) (Xo c=8)
  wants:Fg (Xr c) (Xo c=8)
theorem Ta (a:Int) (b:Bool):Zd (fun nf _ _ _=>Zf nf (a) (b)) (fun r=>r=((dec (Gr a (b=true)),()),[])):=by
  refine Zd.succ (fun nf _ _ _=>Zf.eq nf _ _) ?_
  cases b with
  | false=>simp [Gr,Gq]
  | true=>by_cases h:0≤a <;> simp [Gr,Gq,h]
theorem AQ7 (l:List Int) (hl:l.length≤1048576) (t1:Bool) (t4:Bool):∀ i,i≤l.length→Zd (fun nf fm0 _ _=>Zh.l0 nf fm0 (l) t1 t4 ((i:Int))) (fun r=>r.1.1=true↔(∀ j,i≤j→j<l.length→0≤List.getD l j 0∧List.getD l j 0≤1073741824)∧l.length≤16):=by
  refine upto ?_ (fun i hi next => ?_)
  · refine Zd.succ1 (fun nf fm0 _ _=>Zh.l0_eq nf fm0 _ _ _ _) ?_
    simp [-List.getD_eq_getElem?_getD,-List.length_eq_zero_iff,Zq,Zp,Z5,Zr,Xj,Xi,X5]
    exact ⟨fun h=>⟨fun j a b=>by omega,by omega⟩,fun h=>by omega⟩
  · refine Zd.succ1 (fun nf fm0 _ _=>Zh.l0_eq nf fm0 _ _ _ _) ?_
    rw [← Xm (by omega)] at next
    by_cases h:0≤List.getD l i 0∧List.getD l i 0≤1073741824
    · have next:=next.mono (Q':=fun r=>r.1.1=true↔(∀ j,i≤j→j<l.length→0≤List.getD l j 0∧List.getD l j 0≤1073741824)∧l.length≤16) (fun v hv=>hv.trans ⟨fun ⟨g1,g2⟩=>⟨fun j h1 h2=>by
        by_cases e:j=i
        · subst e; exact h
        · exact g1 j (by omega) h2,g2⟩,fun ⟨g1,g2⟩=>⟨fun j h1 h2=>g1 j (by omega) h2,g2⟩⟩)
      simp [-List.getD_eq_getElem?_getD,-List.length_eq_zero_iff,Zq,Zp,Z5,Zr,Xj,Xi,X5,Ze (Ta _ true),(Ta _ true).prop,Gr,hi,h]
      exact next
    · simp [-List.getD_eq_getElem?_getD,-List.length_eq_zero_iff,Zq,Zp,Z5,Zr,Xj,Xi,X5,Ze (Ta _ true),(Ta _ true).prop,Gr,hi,h]
      intro g
      exact absurd (g i (Nat.le_refl i) hi) h
theorem My (l:List Int) (hl:l.length≤1048576) (b:Bool):Zd (fun nf _ _ _=>Zh nf (l) (b)) (fun r=>r.1.1=true↔Fg l (b=true)):=by
  refine Zd.succ (fun nf _ _ _=>Zh.eq nf _ _) ?_
  cases b with
  | false=>simp [Fg]
  | true =>
    simp [Fg]
    exact (AQ7 l hl _ _ 0 (Nat.zero_le _)).enter.mono (fun v hv=>by simpa using hv)
theorem ABd (c:Cm) (h1:(Xl c).length≤1048576) (h2:(Xr c).length≤1048576):Zd (fun nf _ _ _=>X6 nf (c)) (fun r=>r.1.1=true↔M3 c):=by
  have hmay:M3 c↔1≤Xo c∧Xo c≤10∧0≤Pf c∧Pf c≤3∧(¬ Pf c=0→Xo c≤2)∧Gr (Yt c) (3≤Xo c∧Xo c≤7)∧Gr (G9 c) (Xo c=5∨Xo c=6)∧Gr (Gf c) (Xo c=2∨Xo c=7∨Xo c=8)∧Gr (Us c) (Xo c=8)∧Gr (Ur c) (Xo c=8)∧Fg (Xl c) (Xo c=8)∧Fg (Xr c) (Xo c=8) :=
    ⟨fun h=>⟨h.k1,h.k2,h.d1,h.d2,h.d3,h.item,h.box,h.who,h.pay,h.fee,h.gives,h.wants⟩,fun ⟨a,b,c,d,e,f,g,h,i,j,k,l⟩=>⟨a,b,c,d,e,f,g,h,i,j,k,l⟩⟩
  rw [hmay]
  have key:∀ (kd dir item box who pay fee:Int) (gives wants:List Int),gives.length≤1048576→wants.length≤1048576→Zd (fun nf _ _ _=>X6 nf ((kd,dir,item,box,who,gives,pay,wants,fee,()))) (fun r=>r.1.1=true↔1≤kd∧kd≤10∧0≤dir∧dir≤3∧(¬ dir=0→kd≤2)∧Gr item (3≤kd∧kd≤7)∧Gr box (kd=5∨kd=6)∧Gr who (kd=2∨kd=7∨kd=8)∧Gr pay (kd=8)∧Gr fee (kd=8)∧Fg gives (kd=8)∧Fg wants (kd=8)):=by
    intro kd dir item box who pay fee gives wants h1 h2
    refine Zd.succ (fun nf _ _ _=>X6.eq nf _) ?_
    by_cases k1:kd<1
    · simp [k1]; omega
    by_cases k2:10<kd
    · simp [k1,k2]; omega
    by_cases d1:dir<0
    · simp [k1,k2,d1]; omega
    by_cases d2:3<dir
    · simp [k1,k2,d1,d2]; omega
    have d1':0≤dir:=by omega
    have d2':dir≤3:=by omega
    have hk:kd=1∨kd=2∨kd=3∨kd=4∨kd=5∨kd=6∨kd=7∨kd=8∨kd=9∨kd=10:=by omega
    rcases hk with rfl | rfl | rfl | rfl | rfl | rfl | rfl | rfl | rfl | rfl <;> by_cases d3:dir=0 <;> simp [d1,d2,d1',d2',d3,Ze (Ta _ _),(Ta _ _).prop,Ze (My gives h1 _),(My gives h1 _).bprop,Ze (My wants h2 _),(My wants h2 _).bprop]
    all_goals grind
  exact key _ _ _ _ _ _ _ _ _ h1 h2
end Go.Proofs.YtjobjooccgledaaGreatDoor.Ghost
namespace Go.Proofs.YtjobjooccgledaaGreatDoor.Ghost
open Go
def AKw (c:Cm):Prop:=(Xl c).length≤40∧(Xr c).length≤40
theorem AAu (c:Cm):Zd (fun nf _ _ _=>Ye nf (c)) (fun r=>r.1.1=true↔AKw c):=by
  refine Zd.succ (fun nf _ _ _=>Ye.eq nf _) ?_
  by_cases h:((Xl c).length:Int)≤40
  · simp [-List.getD_eq_getElem?_getD,-List.length_eq_zero_iff,Zq,Zp,Z5,Zr,Xj,Xi,X5,h,AKw]
    have:(Xl c).length≤40:=by omega
    exact ⟨fun h'=>⟨this,Int.ofNat_le.1 h'⟩,fun h'=>Int.ofNat_le.2 h'.2⟩
  · simp [-List.getD_eq_getElem?_getD,-List.length_eq_zero_iff,Zq,Zp,Z5,Zr,Xj,Xi,X5,h,AKw]
    intro h'; omega
end Go.Proofs.YtjobjooccgledaaGreatDoor.Ghost
