/- What functions come to, and that the statements are answered with 'true'. Conditions: none. -/
import Derived.Test.YtmemggdjnfccfaaGreatDoorS
import Derived.Test.YtmemggdjnfccfaaGreatDoorGE
import Derived.Test.YtmemggdjnfccfaaGreatDoorP1
import Derived.Test.YtmemggdjnfccfaaGreatDoorP2
import Derived.Test.YtmemggdjnfccfaaGreatDoorP3
import Derived.Test.YtmemggdjnfccfaaGreatDoorP4
import Derived.Test.YtmemggdjnfccfaaGreatDoorP5
import Derived.Test.YtmemggdjnfccfaaGreatDoorP6
import Derived.Test.YtmemggdjnfccfaaGreatDoorP7
import Derived.Test.YtmemggdjnfccfaaGreatDoorP8
set_option linter.unusedVariables false
set_option linter.unusedSimpArgs false
set_option linter.unusedSectionVars false
set_option linter.unnecessarySimpa false
namespace Go.Proofs.YtmemggdjnfccfaaGreatDoor.Ghost
open Go
abbrev Cm:=den Z2
abbrev Z4 (c:Cm):Int:=c.1
abbrev H5 (c:Cm):Int:=c.2.1
abbrev X5 (c:Cm):Int:=c.2.2.1
abbrev Hx (c:Cm):Int:=c.2.2.2.1
abbrev Jz (c:Cm):Int:=c.2.2.2.2.1
abbrev Xj (c:Cm):List Int:=c.2.2.2.2.2.1
abbrev G6 (c:Cm):Int:=c.2.2.2.2.2.2.1
abbrev Xl (c:Cm):List Int:=c.2.2.2.2.2.2.2.1
abbrev G5 (c:Cm):Int:=c.2.2.2.2.2.2.2.2.1
def G8 (n:Int) (has:Prop):Prop:=(has→0≤n∧n≤1073741824)∧(¬ has→n=0)
def Fq (l:List Int) (has:Prop):Prop:=(has→(∀ i,i<l.length→0≤List.getD l i 0∧List.getD l i 0≤1073741824)∧l.length≤16)∧(¬ has→l=[])
structure Pm (c:Cm):Prop where
  k1:1≤Z4 c
  k2:Z4 c≤10
  d1:0≤H5 c
  d2:H5 c≤3
  d3:¬ H5 c=0→Z4 c≤2
  item:G8 (X5 c) (3≤Z4 c∧Z4 c≤7)
  box:G8 (Hx c) (Z4 c=5∨Z4 c=6)
  who:G8 (Jz c) (Z4 c=2∨Z4 c=7∨Z4 c=8)
  pay:G8 (G6 c) (Z4 c=8)
  fee:G8 (G5 c) (Z4 c=8)
  gives:Fq (Xj c) (Z4 c=8)
  wants:Fq (Xl c) (Z4 c=8)
theorem Tn (a:Int) (b:Bool):Ze (fun nf _ _ _=>Zf nf (a) (b)) (fun r=>r=((dec (G8 a (b=true)),()),[])):=by
  refine Ze.succ (fun nf _ _ _=>Zf.eq nf _ _) ?_
  cases b with
  | false=>simp [G8,G7]
  | true=>by_cases h:0≤a <;> simp [G8,G7,h]
theorem ASq (l:List Int) (hl:l.length≤1048576) (t1:Bool) (t4:Bool):∀ i,i≤l.length→Ze (fun nf fm0 _ _=>Zh.l0 nf fm0 (l) t1 t4 ((i:Int))) (fun r=>r.1.1=true↔(∀ j,i≤j→j<l.length→0≤List.getD l j 0∧List.getD l j 0≤1073741824)∧l.length≤16):=by
  refine upto ?_ (fun i hi next => ?_)
  · refine Ze.succ1 (fun nf fm0 _ _=>Zh.l0_eq nf fm0 _ _ _ _) ?_
    simp [-List.getD_eq_getElem?_getD,-List.length_eq_zero_iff,Zq,Zl,Zu,Zo,Z9,Z8,Xx]
    exact ⟨fun h=>⟨fun j a b=>by omega,by omega⟩,fun h=>by omega⟩
  · refine Ze.succ1 (fun nf fm0 _ _=>Zh.l0_eq nf fm0 _ _ _ _) ?_
    rw [← Xv (by omega)] at next
    by_cases h:0≤List.getD l i 0∧List.getD l i 0≤1073741824
    · have next:=next.mono (Q':=fun r=>r.1.1=true↔(∀ j,i≤j→j<l.length→0≤List.getD l j 0∧List.getD l j 0≤1073741824)∧l.length≤16) (fun v hv=>hv.trans ⟨fun ⟨g1,g2⟩=>⟨fun j h1 h2=>by
        by_cases e:j=i
        · subst e; exact h
        · exact g1 j (by omega) h2,g2⟩,fun ⟨g1,g2⟩=>⟨fun j h1 h2=>g1 j (by omega) h2,g2⟩⟩)
      simp [-List.getD_eq_getElem?_getD,-List.length_eq_zero_iff,Zq,Zl,Zu,Zo,Z9,Z8,Xx,Zd (Tn _ true),(Tn _ true).prop,G8,hi,h]
      exact next
    · simp [-List.getD_eq_getElem?_getD,-List.length_eq_zero_iff,Zq,Zl,Zu,Zo,Z9,Z8,Xx,Zd (Tn _ true),(Tn _ true).prop,G8,hi,h]
      intro g
      exact absurd (g i (Nat.le_refl i) hi) h
theorem M3 (l:List Int) (hl:l.length≤1048576) (b:Bool):Ze (fun nf _ _ _=>Zh nf (l) (b)) (fun r=>r.1.1=true↔Fq l (b=true)):=by
  refine Ze.succ (fun nf _ _ _=>Zh.eq nf _ _) ?_
  cases b with
  | false=>simp [Fq]
  | true =>
    simp [Fq]
    exact (ASq l hl _ _ 0 (Nat.zero_le _)).enter.mono (fun v hv=>by simpa using hv)
theorem ABz (c:Cm) (h1:(Xj c).length≤1048576) (h2:(Xl c).length≤1048576):Ze (fun nf _ _ _=>Yd nf (c)) (fun r=>r.1.1=true↔Pm c):=by
  have hmay:Pm c↔1≤Z4 c∧Z4 c≤10∧0≤H5 c∧H5 c≤3∧(¬ H5 c=0→Z4 c≤2)∧G8 (X5 c) (3≤Z4 c∧Z4 c≤7)∧G8 (Hx c) (Z4 c=5∨Z4 c=6)∧G8 (Jz c) (Z4 c=2∨Z4 c=7∨Z4 c=8)∧G8 (G6 c) (Z4 c=8)∧G8 (G5 c) (Z4 c=8)∧Fq (Xj c) (Z4 c=8)∧Fq (Xl c) (Z4 c=8) :=
    ⟨fun h=>⟨h.k1,h.k2,h.d1,h.d2,h.d3,h.item,h.box,h.who,h.pay,h.fee,h.gives,h.wants⟩,fun ⟨a,b,c,d,e,f,g,h,i,j,k,l⟩=>⟨a,b,c,d,e,f,g,h,i,j,k,l⟩⟩
  rw [hmay]
  have key:∀ (kd dir item box who pay fee:Int) (gives wants:List Int),gives.length≤1048576→wants.length≤1048576→Ze (fun nf _ _ _=>Yd nf ((kd,dir,item,box,who,gives,pay,wants,fee,()))) (fun r=>r.1.1=true↔1≤kd∧kd≤10∧0≤dir∧dir≤3∧(¬ dir=0→kd≤2)∧G8 item (3≤kd∧kd≤7)∧G8 box (kd=5∨kd=6)∧G8 who (kd=2∨kd=7∨kd=8)∧G8 pay (kd=8)∧G8 fee (kd=8)∧Fq gives (kd=8)∧Fq wants (kd=8)):=by
    intro kd dir item box who pay fee gives wants h1 h2
    refine Ze.succ (fun nf _ _ _=>Yd.eq nf _) ?_
    by_cases k1:kd<1
    · simp [k1]; omega
    by_cases k2:10<kd
    · simp [k1,k2]; omega
    by_cases d1:dir<0
    · simp [k1,k2,d1]; omega
    by_cases d2:3<dir
    · simp [k1,k2,d1,d2]; omega
    have d1':0≤dir:=by omega
    have d2':dir≤3:=by omega
    have hk:kd=1∨kd=2∨kd=3∨kd=4∨kd=5∨kd=6∨kd=7∨kd=8∨kd=9∨kd=10:=by omega
    rcases hk with rfl | rfl | rfl | rfl | rfl | rfl | rfl | rfl | rfl | rfl <;> by_cases d3:dir=0 <;> simp [d1,d2,d1',d2',d3,Zd (Tn _ _),(Tn _ _).prop,Zd (M3 gives h1 _),(M3 gives h1 _).bprop,Zd (M3 wants h2 _),(M3 wants h2 _).bprop]
    all_goals grind
  exact key _ _ _ _ _ _ _ _ _ h1 h2
end Go.Proofs.YtmemggdjnfccfaaGreatDoor.Ghost
namespace Go.Proofs.YtmemggdjnfccfaaGreatDoor.Ghost
open Go
def AK7 (c:Cm):Prop:=(Xj c).length≤40∧(Xl c).length≤40
theorem ABe (c:Cm):Ze (fun nf _ _ _=>Yn nf (c)) (fun r=>r.1.1=true↔AK7 c):=by
  refine Ze.succ (fun nf _ _ _=>Yn.eq nf _) ?_
  by_cases h:((Xj c).length:Int)≤40
  · simp [-List.getD_eq_getElem?_getD,-List.length_eq_zero_iff,Zq,Zl,Zu,Zo,Z9,Z8,Xx,h,AK7]
    have:(Xj c).length≤40:=by omega
    exact ⟨fun h'=>⟨this,Int.ofNat_le.1 h'⟩,fun h'=>Int.ofNat_le.2 h'.2⟩
  · simp [-List.getD_eq_getElem?_getD,-List.length_eq_zero_iff,Zq,Zl,Zu,Zo,Z9,Z8,Xx,h,AK7]
    intro h'; omega
end Go.Proofs.YtmemggdjnfccfaaGreatDoor.Ghost
