/- What functions come to, and that the statements are answered with 'true'. Conditions: none. -/
import Derived.Test.YtmemggdjnfccfaaGreatDoorS
import Derived.Test.YtmemggdjnfccfaaGreatDoorGE
import Derived.Test.YtmemggdjnfccfaaGreatDoorP1
import Derived.Test.YtmemggdjnfccfaaGreatDoorP2
import Derived.Test.YtmemggdjnfccfaaGreatDoorP3
import Derived.Test.YtmemggdjnfccfaaGreatDoorP4
import Derived.Test.YtmemggdjnfccfaaGreatDoorP5
import Derived.Test.YtmemggdjnfccfaaGreatDoorP6
import Derived.Test.YtmemggdjnfccfaaGreatDoorP7
import Derived.Test.YtmemggdjnfccfaaGreatDoorP8
set_option linter.unusedVariables false
set_option linter.unusedSimpArgs false
set_option linter.unusedSectionVars false
set_option linter.unnecessarySimpa false
namespace Go.Proofs.YtmemggdjnfccfaaGreatDoor.Ghost
open Go
abbrev Cm:=den Zz
abbrev Z2 (c:Cm):Int:=c.1
abbrev Hg (c:Cm):Int:=c.2.1
abbrev X4 (c:Cm):Int:=c.2.2.1
abbrev H6 (c:Cm):Int:=c.2.2.2.1
abbrev Y6 (c:Cm):Int:=c.2.2.2.2.1
abbrev Xb (c:Cm):List Int:=c.2.2.2.2.2.1
abbrev K9 (c:Cm):Int:=c.2.2.2.2.2.2.1
abbrev Xg (c:Cm):List Int:=c.2.2.2.2.2.2.2.1
abbrev K8 (c:Cm):Int:=c.2.2.2.2.2.2.2.2.1
def Ue (n:Int) (has:Prop):Prop:=(has→0≤n∧n≤1073741824)∧(¬ has→n=0)
def F5 (l:List Int) (has:Prop):Prop:=(has→(∀ i,i<l.length→0≤List.getD l i 0∧List.getD l i 0≤1073741824)∧l.length≤16)∧(¬ has→l=[])
structure Ws (c:Cm):Prop where
  k1:1≤Z2 c
  k2:Z2 c≤10
  d1:0≤Hg c
  d2:Hg c≤3
  d3:¬ Hg c=0→Z2 c≤2
  item:Ue (X4 c) (3≤Z2 c∧Z2 c≤7)
  box:Ue (H6 c) (Z2 c=5∨Z2 c=6)
  who:Ue (Y6 c) (Z2 c=2∨Z2 c=7∨Z2 c=8)
  pay:Ue (K9 c) (Z2 c=8)
  fee:Ue (K8 c) (Z2 c=8)
  gives:F5 (Xb c) (Z2 c=8)
  wants:F5 (Xg c) (Z2 c=8)
theorem Tw (a:Int) (b:Bool):Zd (fun nf _ _ _=>Zf nf (a) (b)) (fun r=>r=((dec (Ue a (b=true)),()),[])):=by
  refine Zd.succ (fun nf _ _ _=>Zf.eq nf _ _) ?_
  cases b with
  | false=>simp [Ue,Ud]
  | true=>by_cases h:0≤a <;> simp [Ue,Ud,h]
theorem ATb (l:List Int) (hl:l.length≤1048576) (t1:Bool) (t4:Bool):∀ i,i≤l.length→Zd (fun nf fm0 _ _=>Zh.l0 nf fm0 (l) t1 t4 ((i:Int))) (fun r=>r.1.1=true↔(∀ j,i≤j→j<l.length→0≤List.getD l j 0∧List.getD l j 0≤1073741824)∧l.length≤16):=by
  refine upto ?_ (fun i hi next => ?_)
  · refine Zd.succ1 (fun nf fm0 _ _=>Zh.l0_eq nf fm0 _ _ _ _) ?_
    simp [-List.getD_eq_getElem?_getD,-List.length_eq_zero_iff,Zp,Zm,Zy,Zo,Xj,Xi,Yb]
    exact ⟨fun h=>⟨fun j a b=>by omega,by omega⟩,fun h=>by omega⟩
  · refine Zd.succ1 (fun nf fm0 _ _=>Zh.l0_eq nf fm0 _ _ _ _) ?_
    rw [← Xv (by omega)] at next
    by_cases h:0≤List.getD l i 0∧List.getD l i 0≤1073741824
    · have next:=next.mono (Q':=fun r=>r.1.1=true↔(∀ j,i≤j→j<l.length→0≤List.getD l j 0∧List.getD l j 0≤1073741824)∧l.length≤16) (fun v hv=>hv.trans ⟨fun ⟨g1,g2⟩=>⟨fun j h1 h2=>by
        by_cases e:j=i
        · subst e; exact h
        · exact g1 j (by omega) h2,g2⟩,fun ⟨g1,g2⟩=>⟨fun j h1 h2=>g1 j (by omega) h2,g2⟩⟩)
      simp [-List.getD_eq_getElem?_getD,-List.length_eq_zero_iff,Zp,Zm,Zy,Zo,Xj,Xi,Yb,Ze (Tw _ true),(Tw _ true).prop,Ue,hi,h]
      exact next
    · simp [-List.getD_eq_getElem?_getD,-List.length_eq_zero_iff,Zp,Zm,Zy,Zo,Xj,Xi,Yb,Ze (Tw _ true),(Tw _ true).prop,Ue,hi,h]
      intro g
      exact absurd (g i (Nat.le_refl i) hi) h
theorem Lq (l:List Int) (hl:l.length≤1048576) (b:Bool):Zd (fun nf _ _ _=>Zh nf (l) (b)) (fun r=>r.1.1=true↔F5 l (b=true)):=by
  refine Zd.succ (fun nf _ _ _=>Zh.eq nf _ _) ?_
  cases b with
  | false=>simp [F5]
  | true =>
    simp [F5]
    exact (ATb l hl _ _ 0 (Nat.zero_le _)).enter.mono (fun v hv=>by simpa using hv)
theorem Lk (c:Cm) (h1:(Xb c).length≤1048576) (h2:(Xg c).length≤1048576):Zd (fun nf _ _ _=>Ye nf (c)) (fun r=>r.1.1=true↔Ws c):=by
  have hmay:Ws c↔1≤Z2 c∧Z2 c≤10∧0≤Hg c∧Hg c≤3∧(¬ Hg c=0→Z2 c≤2)∧Ue (X4 c) (3≤Z2 c∧Z2 c≤7)∧Ue (H6 c) (Z2 c=5∨Z2 c=6)∧Ue (Y6 c) (Z2 c=2∨Z2 c=7∨Z2 c=8)∧Ue (K9 c) (Z2 c=8)∧Ue (K8 c) (Z2 c=8)∧F5 (Xb c) (Z2 c=8)∧F5 (Xg c) (Z2 c=8) :=
    ⟨fun h=>⟨h.k1,h.k2,h.d1,h.d2,h.d3,h.item,h.box,h.who,h.pay,h.fee,h.gives,h.wants⟩,fun ⟨a,b,c,d,e,f,g,h,i,j,k,l⟩=>⟨a,b,c,d,e,f,g,h,i,j,k,l⟩⟩
  rw [hmay]
  have key:∀ (kd dir item box who pay fee:Int) (gives wants:List Int),gives.length≤1048576→wants.length≤1048576→Zd (fun nf _ _ _=>Ye nf ((kd,dir,item,box,who,gives,pay,wants,fee,()))) (fun r=>r.1.1=true↔1≤kd∧kd≤10∧0≤dir∧dir≤3∧(¬ dir=0→kd≤2)∧Ue item (3≤kd∧kd≤7)∧Ue box (kd=5∨kd=6)∧Ue who (kd=2∨kd=7∨kd=8)∧Ue pay (kd=8)∧Ue fee (kd=8)∧F5 gives (kd=8)∧F5 wants (kd=8)):=by
    intro kd dir item box who pay fee gives wants h1 h2
    refine Zd.succ (fun nf _ _ _=>Ye.eq nf _) ?_
    by_cases k1:kd<1
    · simp [k1]; omega
    by_cases k2:10<kd
    · simp [k1,k2]; omega
    by_cases d1:dir<0
    · simp [k1,k2,d1]; omega
    by_cases d2:3<dir
    · simp [k1,k2,d1,d2]; omega
    have d1':0≤dir:=by omega
    have d2':dir≤3:=by omega
    have hk:kd=1∨kd=2∨kd=3∨kd=4∨kd=5∨kd=6∨kd=7∨kd=8∨kd=9∨kd=10:=by omega
    rcases hk with rfl | rfl | rfl | rfl | rfl | rfl | rfl | rfl | rfl | rfl <;> by_cases d3:dir=0 <;> simp [d1,d2,d1',d2',d3,Ze (Tw _ _),(Tw _ _).prop,Ze (Lq gives h1 _),(Lq gives h1 _).bprop,Ze (Lq wants h2 _),(Lq wants h2 _).bprop]
    all_goals grind
  exact key _ _ _ _ _ _ _ _ _ h1 h2
end Go.Proofs.YtmemggdjnfccfaaGreatDoor.Ghost
namespace Go.Proofs.YtmemggdjnfccfaaGreatDoor.Ghost
open Go
def AHe (c:Cm):Prop:=(Xb c).length≤40∧(Xg c).length≤40
theorem Tv (c:Cm):Zd (fun nf _ _ _=>Yi nf (c)) (fun r=>r.1.1=true↔AHe c):=by
  refine Zd.succ (fun nf _ _ _=>Yi.eq nf _) ?_
  by_cases h:((Xb c).length:Int)≤40
  · simp [-List.getD_eq_getElem?_getD,-List.length_eq_zero_iff,Zp,Zm,Zy,Zo,Xj,Xi,Yb,h,AHe]
    have:(Xb c).length≤40:=by omega
    exact ⟨fun h'=>⟨this,Int.ofNat_le.1 h'⟩,fun h'=>Int.ofNat_le.2 h'.2⟩
  · simp [-List.getD_eq_getElem?_getD,-List.length_eq_zero_iff,Zp,Zm,Zy,Zo,Xj,Xi,Yb,h,AHe]
    intro h'; omega
end Go.Proofs.YtmemggdjnfccfaaGreatDoor.Ghost
