/- What functions come to, and that the statements are answered with 'true'. Conditions: none. -/
import Derived.Test.YtpemapoblhleoaaGreatDoorS
import Derived.Test.YtpemapoblhleoaaGreatDoorGE
import Derived.Test.YtpemapoblhleoaaGreatDoorP1
import Derived.Test.YtpemapoblhleoaaGreatDoorP2
import Derived.Test.YtpemapoblhleoaaGreatDoorP3
import Derived.Test.YtpemapoblhleoaaGreatDoorP4
import Derived.Test.YtpemapoblhleoaaGreatDoorP5
import Derived.Test.YtpemapoblhleoaaGreatDoorP6
set_option linter.unusedVariables false
set_option linter.unusedSimpArgs false
set_option linter.unusedSectionVars false
set_option linter.unnecessarySimpa false
namespace Go.Proofs.YtpemapoblhleoaaGreatDoor.Ghost
open Go
abbrev Cm:=den Zx
abbrev Xq (c:Cm):Int:=c.1
abbrev Rq (c:Cm):Int:=c.2.1
abbrev Yk (c:Cm):Int:=c.2.2.1
abbrev Gh (c:Cm):Int:=c.2.2.2.1
abbrev Kw (c:Cm):Int:=c.2.2.2.2.1
abbrev Zr (c:Cm):List Int:=c.2.2.2.2.2.1
abbrev Gs (c:Cm):Int:=c.2.2.2.2.2.2.1
abbrev Zu (c:Cm):List Int:=c.2.2.2.2.2.2.2.1
abbrev Gx (c:Cm):Int:=c.2.2.2.2.2.2.2.2.1
def Uh (n:Int) (has:Prop):Prop:=(has→0≤n∧n≤1073741824)∧(¬ has→n=0)
def Fj (l:List Int) (has:Prop):Prop:=(has→(∀ i,i<l.length→0≤List.getD l i 0∧List.getD l i 0≤1073741824)∧l.length≤16)∧(¬ has→l=[])
structure Me (c:Cm):Prop where
  k1:1≤Xq c
  k2:Xq c≤10
  d1:0≤Rq c
  d2:Rq c≤3
  d3:¬ Rq c=0→Xq c≤2
  item:Uh (Yk c) (3≤Xq c∧Xq c≤7)
  box:Uh (Gh c) (Xq c=5∨Xq c=6)
  who:Uh (Kw c) (Xq c=2∨Xq c=7∨Xq c=8)
  pay:Uh (Gs c) (Xq c=8)
  fee:Uh (Gx c) (Xq c=8)
  gives:Fj (Zr c) (Xq c=8)
  wants:Fj (Zu c) (Xq c=8)
theorem Ts (a:Int) (b:Bool):Zd (fun nf _ _ _=>Zg nf (a) (b)) (fun r=>r=((dec (Uh a (b=true)),()),[])):=by
  refine Zd.succ (fun nf _ _ _=>Zg.eq nf _ _) ?_
  cases b with
  | false=>simp [Uh,Hh]
  | true=>by_cases h:0≤a <;> simp [Uh,Hh,h]
theorem ARa (l:List Int) (hl:l.length≤1048576) (t1:Bool) (t4:Bool):∀ i,i≤l.length→Zd (fun nf fm0 _ _=>Zi.l0 nf fm0 (l) t1 t4 ((i:Int))) (fun r=>r.1.1=true↔(∀ j,i≤j→j<l.length→0≤List.getD l j 0∧List.getD l j 0≤1073741824)∧l.length≤16):=by
  refine upto ?_ (fun i hi next => ?_)
  · refine Zd.succ1 (fun nf fm0 _ _=>Zi.l0_eq nf fm0 _ _ _ _) ?_
    simp [-List.getD_eq_getElem?_getD,-List.length_eq_zero_iff,Zn,Zj,Zv,Zk,Xb,Xc,Xr]
    exact ⟨fun h=>⟨fun j a b=>by omega,by omega⟩,fun h=>by omega⟩
  · refine Zd.succ1 (fun nf fm0 _ _=>Zi.l0_eq nf fm0 _ _ _ _) ?_
    rw [← Xm (by omega)] at next
    by_cases h:0≤List.getD l i 0∧List.getD l i 0≤1073741824
    · have next:=next.mono (Q':=fun r=>r.1.1=true↔(∀ j,i≤j→j<l.length→0≤List.getD l j 0∧List.getD l j 0≤1073741824)∧l.length≤16) (fun v hv=>hv.trans ⟨fun ⟨g1,g2⟩=>⟨fun j h1 h2=>by
        by_cases e:j=i
        · subst e; exact h
        · exact g1 j (by omega) h2,g2⟩,fun ⟨g1,g2⟩=>⟨fun j h1 h2=>g1 j (by omega) h2,g2⟩⟩)
      simp [-List.getD_eq_getElem?_getD,-List.length_eq_zero_iff,Zn,Zj,Zv,Zk,Xb,Xc,Xr,Zf (Ts _ true),(Ts _ true).prop,Uh,hi,h]
      exact next
    · simp [-List.getD_eq_getElem?_getD,-List.length_eq_zero_iff,Zn,Zj,Zv,Zk,Xb,Xc,Xr,Zf (Ts _ true),(Ts _ true).prop,Uh,hi,h]
      intro g
      exact absurd (g i (Nat.le_refl i) hi) h
theorem Le (l:List Int) (hl:l.length≤1048576) (b:Bool):Zd (fun nf _ _ _=>Zi nf (l) (b)) (fun r=>r.1.1=true↔Fj l (b=true)):=by
  refine Zd.succ (fun nf _ _ _=>Zi.eq nf _ _) ?_
  cases b with
  | false=>simp [Fj]
  | true =>
    simp [Fj]
    exact (ARa l hl _ _ 0 (Nat.zero_le _)).enter.mono (fun v hv=>by simpa using hv)
theorem AKi (c:Cm) (h1:(Zr c).length≤1048576) (h2:(Zu c).length≤1048576):Zd (fun nf _ _ _=>Yp nf (c)) (fun r=>r.1.1=true↔Me c):=by
  have hmay:Me c↔1≤Xq c∧Xq c≤10∧0≤Rq c∧Rq c≤3∧(¬ Rq c=0→Xq c≤2)∧Uh (Yk c) (3≤Xq c∧Xq c≤7)∧Uh (Gh c) (Xq c=5∨Xq c=6)∧Uh (Kw c) (Xq c=2∨Xq c=7∨Xq c=8)∧Uh (Gs c) (Xq c=8)∧Uh (Gx c) (Xq c=8)∧Fj (Zr c) (Xq c=8)∧Fj (Zu c) (Xq c=8) :=
    ⟨fun h=>⟨h.k1,h.k2,h.d1,h.d2,h.d3,h.item,h.box,h.who,h.pay,h.fee,h.gives,h.wants⟩,fun ⟨a,b,c,d,e,f,g,h,i,j,k,l⟩=>⟨a,b,c,d,e,f,g,h,i,j,k,l⟩⟩
  rw [hmay]
  have key:∀ (kd dir item box who pay fee:Int) (gives wants:List Int),gives.length≤1048576→wants.length≤1048576→Zd (fun nf _ _ _=>Yp nf ((kd,dir,item,box,who,gives,pay,wants,fee,()))) (fun r=>r.1.1=true↔1≤kd∧kd≤10∧0≤dir∧dir≤3∧(¬ dir=0→kd≤2)∧Uh item (3≤kd∧kd≤7)∧Uh box (kd=5∨kd=6)∧Uh who (kd=2∨kd=7∨kd=8)∧Uh pay (kd=8)∧Uh fee (kd=8)∧Fj gives (kd=8)∧Fj wants (kd=8)):=by
    intro kd dir item box who pay fee gives wants h1 h2
    refine Zd.succ (fun nf _ _ _=>Yp.eq nf _) ?_
    by_cases k1:kd<1
    · simp [k1]; omega
    by_cases k2:10<kd
    · simp [k1,k2]; omega
    by_cases d1:dir<0
    · simp [k1,k2,d1]; omega
    by_cases d2:3<dir
    · simp [k1,k2,d1,d2]; omega
    have d1':0≤dir:=by omega
    have d2':dir≤3:=by omega
    have hk:kd=1∨kd=2∨kd=3∨kd=4∨kd=5∨kd=6∨kd=7∨kd=8∨kd=9∨kd=10:=by omega
    rcases hk with rfl | rfl | rfl | rfl | rfl | rfl | rfl | rfl | rfl | rfl <;> by_cases d3:dir=0 <;> simp [d1,d2,d1',d2',d3,Zf (Ts _ _),(Ts _ _).prop,Zf (Le gives h1 _),(Le gives h1 _).bprop,Zf (Le wants h2 _),(Le wants h2 _).bprop]
    all_goals grind
  exact key _ _ _ _ _ _ _ _ _ h1 h2
end Go.Proofs.YtpemapoblhleoaaGreatDoor.Ghost
namespace Go.Proofs.YtpemapoblhleoaaGreatDoor.Ghost
open Go
def AKb (c:Cm):Prop:=(Zr c).length≤40∧(Zu c).length≤40
theorem ABx (c:Cm):Zd (fun nf _ _ _=>Y3 nf (c)) (fun r=>r.1.1=true↔AKb c):=by
  refine Zd.succ (fun nf _ _ _=>Y3.eq nf _) ?_
  by_cases h:((Zr c).length:Int)≤40
  · simp [-List.getD_eq_getElem?_getD,-List.length_eq_zero_iff,Zn,Zj,Zv,Zk,Xb,Xc,Xr,h,AKb]
    have:(Zr c).length≤40:=by omega
    exact ⟨fun h'=>⟨this,Int.ofNat_le.1 h'⟩,fun h'=>Int.ofNat_le.2 h'.2⟩
  · simp [-List.getD_eq_getElem?_getD,-List.length_eq_zero_iff,Zn,Zj,Zv,Zk,Xb,Xc,Xr,h,AKb]
    intro h'; omega
end Go.Proofs.YtpemapoblhleoaaGreatDoor.Ghost
