/- What functions come to, and that the statements are answered with 'true'. Conditions: none. -/
import Derived.Test.YtpemapoblhleoaaGreatDoorS
import Derived.Test.YtpemapoblhleoaaGreatDoorGE
import Derived.Test.YtpemapoblhleoaaGreatDoorP1
import Derived.Test.YtpemapoblhleoaaGreatDoorP2
import Derived.Test.YtpemapoblhleoaaGreatDoorP3
import Derived.Test.YtpemapoblhleoaaGreatDoorP4
import Derived.Test.YtpemapoblhleoaaGreatDoorP5
import Derived.Test.YtpemapoblhleoaaGreatDoorP6
set_option linter.unusedVariables false
set_option linter.unusedSimpArgs false
set_option linter.unusedSectionVars false
set_option linter.unnecessarySimpa false
namespace Go.Proofs.YtpemapoblhleoaaGreatDoor.Ghost
open Go
abbrev Cm:=den Zw
abbrev Z6 (c:Cm):Int:=c.1
abbrev Tm (c:Cm):Int:=c.2.1
abbrev Xu (c:Cm):Int:=c.2.2.1
abbrev Kk (c:Cm):Int:=c.2.2.2.1
abbrev Hn (c:Cm):Int:=c.2.2.2.2.1
abbrev Xc (c:Cm):List Int:=c.2.2.2.2.2.1
abbrev Ud (c:Cm):Int:=c.2.2.2.2.2.2.1
abbrev Xi (c:Cm):List Int:=c.2.2.2.2.2.2.2.1
abbrev Uc (c:Cm):Int:=c.2.2.2.2.2.2.2.2.1
def Gc (n:Int) (has:Prop):Prop:=(has→0≤n∧n≤1073741824)∧(¬ has→n=0)
def M8 (l:List Int) (has:Prop):Prop:=(has→(∀ i,i<l.length→0≤List.getD l i 0∧List.getD l i 0≤1073741824)∧l.length≤16)∧(¬ has→l=[])
structure Rp (c:Cm):Prop where
  k1:1≤Z6 c
  k2:Z6 c≤10
  d1:0≤Tm c
  d2:Tm c≤3
  d3:¬ Tm c=0→Z6 c≤2
  item:Gc (Xu c) (3≤Z6 c∧Z6 c≤7)
  box:Gc (Kk c) (Z6 c=5∨Z6 c=6)
  who:Gc (Hn c) (Z6 c=2∨Z6 c=7∨Z6 c=8)
  pay:Gc (Ud c) (Z6 c=8)
  fee:Gc (Uc c) (Z6 c=8)
  gives:M8 (Xc c) (Z6 c=8)
  wants:M8 (Xi c) (Z6 c=8)
theorem Wk (a:Int) (b:Bool):Zd (fun nf _ _ _=>Zf nf (a) (b)) (fun r=>r=((dec (Gc a (b=true)),()),[])):=by
  refine Zd.succ (fun nf _ _ _=>Zf.eq nf _ _) ?_
  cases b with
  | false=>simp [Gc,Gh]
  | true=>by_cases h:0≤a <;> simp [Gc,Gh,h]
theorem AQ2 (l:List Int) (hl:l.length≤1048576) (t1:Bool) (t4:Bool):∀ i,i≤l.length→Zd (fun nf fm0 _ _=>Zh.l0 nf fm0 (l) t1 t4 ((i:Int))) (fun r=>r.1.1=true↔(∀ j,i≤j→j<l.length→0≤List.getD l j 0∧List.getD l j 0≤1073741824)∧l.length≤16):=by
  refine upto ?_ (fun i hi next => ?_)
  · refine Zd.succ1 (fun nf fm0 _ _=>Zh.l0_eq nf fm0 _ _ _ _) ?_
    simp [-List.getD_eq_getElem?_getD,-List.length_eq_zero_iff,Zu,Zq,Z0,Zr,Xg,Xf,Ya]
    exact ⟨fun h=>⟨fun j a b=>by omega,by omega⟩,fun h=>by omega⟩
  · refine Zd.succ1 (fun nf fm0 _ _=>Zh.l0_eq nf fm0 _ _ _ _) ?_
    rw [← Xr (by omega)] at next
    by_cases h:0≤List.getD l i 0∧List.getD l i 0≤1073741824
    · have next:=next.mono (Q':=fun r=>r.1.1=true↔(∀ j,i≤j→j<l.length→0≤List.getD l j 0∧List.getD l j 0≤1073741824)∧l.length≤16) (fun v hv=>hv.trans ⟨fun ⟨g1,g2⟩=>⟨fun j h1 h2=>by
        by_cases e:j=i
        · subst e; exact h
        · exact g1 j (by omega) h2,g2⟩,fun ⟨g1,g2⟩=>⟨fun j h1 h2=>g1 j (by omega) h2,g2⟩⟩)
      simp [-List.getD_eq_getElem?_getD,-List.length_eq_zero_iff,Zu,Zq,Z0,Zr,Xg,Xf,Ya,Ze (Wk _ true),(Wk _ true).prop,Gc,hi,h]
      exact next
    · simp [-List.getD_eq_getElem?_getD,-List.length_eq_zero_iff,Zu,Zq,Z0,Zr,Xg,Xf,Ya,Ze (Wk _ true),(Wk _ true).prop,Gc,hi,h]
      intro g
      exact absurd (g i (Nat.le_refl i) hi) h
theorem N7 (l:List Int) (hl:l.length≤1048576) (b:Bool):Zd (fun nf _ _ _=>Zh nf (l) (b)) (fun r=>r.1.1=true↔M8 l (b=true)):=by
  refine Zd.succ (fun nf _ _ _=>Zh.eq nf _ _) ?_
  cases b with
  | false=>simp [M8]
  | true =>
    simp [M8]
    exact (AQ2 l hl _ _ 0 (Nat.zero_le _)).enter.mono (fun v hv=>by simpa using hv)
theorem AAq (c:Cm) (h1:(Xc c).length≤1048576) (h2:(Xi c).length≤1048576):Zd (fun nf _ _ _=>X2 nf (c)) (fun r=>r.1.1=true↔Rp c):=by
  have hmay:Rp c↔1≤Z6 c∧Z6 c≤10∧0≤Tm c∧Tm c≤3∧(¬ Tm c=0→Z6 c≤2)∧Gc (Xu c) (3≤Z6 c∧Z6 c≤7)∧Gc (Kk c) (Z6 c=5∨Z6 c=6)∧Gc (Hn c) (Z6 c=2∨Z6 c=7∨Z6 c=8)∧Gc (Ud c) (Z6 c=8)∧Gc (Uc c) (Z6 c=8)∧M8 (Xc c) (Z6 c=8)∧M8 (Xi c) (Z6 c=8) :=
    ⟨fun h=>⟨h.k1,h.k2,h.d1,h.d2,h.d3,h.item,h.box,h.who,h.pay,h.fee,h.gives,h.wants⟩,fun ⟨a,b,c,d,e,f,g,h,i,j,k,l⟩=>⟨a,b,c,d,e,f,g,h,i,j,k,l⟩⟩
  rw [hmay]
  have key:∀ (kd dir item box who pay fee:Int) (gives wants:List Int),gives.length≤1048576→wants.length≤1048576→Zd (fun nf _ _ _=>X2 nf ((kd,dir,item,box,who,gives,pay,wants,fee,()))) (fun r=>r.1.1=true↔1≤kd∧kd≤10∧0≤dir∧dir≤3∧(¬ dir=0→kd≤2)∧Gc item (3≤kd∧kd≤7)∧Gc box (kd=5∨kd=6)∧Gc who (kd=2∨kd=7∨kd=8)∧Gc pay (kd=8)∧Gc fee (kd=8)∧M8 gives (kd=8)∧M8 wants (kd=8)):=by
    intro kd dir item box who pay fee gives wants h1 h2
    refine Zd.succ (fun nf _ _ _=>X2.eq nf _) ?_
    by_cases k1:kd<1
    · simp [k1]; omega
    by_cases k2:10<kd
    · simp [k1,k2]; omega
    by_cases d1:dir<0
    · simp [k1,k2,d1]; omega
    by_cases d2:3<dir
    · simp [k1,k2,d1,d2]; omega
    have d1':0≤dir:=by omega
    have d2':dir≤3:=by omega
    have hk:kd=1∨kd=2∨kd=3∨kd=4∨kd=5∨kd=6∨kd=7∨kd=8∨kd=9∨kd=10:=by omega
    rcases hk with rfl | rfl | rfl | rfl | rfl | rfl | rfl | rfl | rfl | rfl <;> by_cases d3:dir=0 <;> simp [d1,d2,d1',d2',d3,Ze (Wk _ _),(Wk _ _).prop,Ze (N7 gives h1 _),(N7 gives h1 _).bprop,Ze (N7 wants h2 _),(N7 wants h2 _).bprop]
    all_goals grind
  exact key _ _ _ _ _ _ _ _ _ h1 h2
end Go.Proofs.YtpemapoblhleoaaGreatDoor.Ghost
namespace Go.Proofs.YtpemapoblhleoaaGreatDoor.Ghost
open Go
def AH3 (c:Cm):Prop:=(Xc c).length≤40∧(Xi c).length≤40
theorem Az (c:Cm):Zd (fun nf _ _ _=>X8 nf (c)) (fun r=>r.1.1=true↔AH3 c):=by
  refine Zd.succ (fun nf _ _ _=>X8.eq nf _) ?_
  by_cases h:((Xc c).length:Int)≤40
  · simp [-List.getD_eq_getElem?_getD,-List.length_eq_zero_iff,Zu,Zq,Z0,Zr,Xg,Xf,Ya,h,AH3]
    have:(Xc c).length≤40:=by omega
    exact ⟨fun h'=>⟨this,Int.ofNat_le.1 h'⟩,fun h'=>Int.ofNat_le.2 h'.2⟩
  · simp [-List.getD_eq_getElem?_getD,-List.length_eq_zero_iff,Zu,Zq,Z0,Zr,Xg,Xf,Ya,h,AH3]
    intro h'; omega
end Go.Proofs.YtpemapoblhleoaaGreatDoor.Ghost
