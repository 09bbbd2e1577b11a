/- What functions come to, and that the statements are answered with 'true'. Conditions: none. -/
import Derived.Test.YtmemggdjnfccfaaS
import Derived.Test.YtmemggdjnfccfaaGE
import Derived.Test.YtmemggdjnfccfaaP1
import Derived.Test.YtmemggdjnfccfaaP2
import Derived.Test.YtmemggdjnfccfaaP3
set_option linter.unusedVariables false
set_option linter.unusedSimpArgs false
set_option linter.unusedSectionVars false
set_option linter.unnecessarySimpa false
namespace Go.Proofs.Ytmemggdjnfccfaa.Ghost
open Go
abbrev Cm:=den tCmd
abbrev cKind (c:Cm):Int:=c.1
abbrev cDir (c:Cm):Int:=c.2.1
abbrev cItem (c:Cm):Int:=c.2.2.1
abbrev cBox (c:Cm):Int:=c.2.2.2.1
abbrev cWho (c:Cm):Int:=c.2.2.2.2.1
abbrev cGives (c:Cm):List Int:=c.2.2.2.2.2.1
abbrev cPay (c:Cm):Int:=c.2.2.2.2.2.2.1
abbrev cWants (c:Cm):List Int:=c.2.2.2.2.2.2.2.1
abbrev cFee (c:Cm):Int:=c.2.2.2.2.2.2.2.2.1
def fitP (n:Int) (has:Prop):Prop:=(has→0≤n∧n≤1073741824)∧(¬ has→n=0)
def rowP (l:List Int) (has:Prop):Prop:=(has→(∀ i,i<l.length→0≤List.getD l i 0∧List.getD l i 0≤1073741824)∧l.length≤16)∧(¬ has→l=[])
structure MayC (c:Cm):Prop where
  k1:1≤cKind c
  k2:cKind c≤10
  d1:0≤cDir c
  d2:cDir c≤3
  d3:¬ cDir c=0→cKind c≤2
  item:fitP (cItem c) (3≤cKind c∧cKind c≤7)
  box:fitP (cBox c) (cKind c=5∨cKind c=6)
  who:fitP (cWho c) (cKind c=2∨cKind c=7∨cKind c=8)
  pay:fitP (cPay c) (cKind c=8)
  fee:fitP (cFee c) (cKind c=8)
  gives:rowP (cGives c) (cKind c=8)
  wants:rowP (cWants c) (cKind c=8)
theorem fit3_spec (a:Int) (b:Bool):Comes (fun nf _ _ _=>innkeepref03_fit nf (a) (b)) (fun r=>r=((dec (fitP a (b=true)),()),[])):=by
  refine Comes.succ (fun nf _ _ _=>innkeepref03_fit.eq nf _ _) ?_
  cases b with
  | false=>simp [fitP,decide_dec]
  | true=>by_cases h:0≤a <;> simp [fitP,decide_dec,h]
theorem row3_l0 (l:List Int) (hl:l.length≤1048576) (t1:Bool) (t4:Bool):∀ i,i≤l.length→Comes (fun nf fm0 _ _=>innkeepref03_row.l0 nf fm0 (l) t1 t4 ((i:Int))) (fun r=>r.1.1=true↔(∀ j,i≤j→j<l.length→0≤List.getD l j 0∧List.getD l j 0≤1073741824)∧l.length≤16):=by
  refine upto ?_ (fun i hi next => ?_)
  · refine Comes.succ1 (fun nf fm0 _ _=>innkeepref03_row.l0_eq nf fm0 _ _ _ _) ?_
    simp [-List.getD_eq_getElem?_getD,-List.length_eq_zero_iff,keepAll,freshHas,pathEq,eqPl_dec,wrap1,wrap0,nbeq]
    exact ⟨fun h=>⟨fun j a b=>by omega,by omega⟩,fun h=>by omega⟩
  · refine Comes.succ1 (fun nf fm0 _ _=>innkeepref03_row.l0_eq nf fm0 _ _ _ _) ?_
    rw [← wrap_succ (by omega)] at next
    by_cases h:0≤List.getD l i 0∧List.getD l i 0≤1073741824
    · have next:=next.mono (Q':=fun r=>r.1.1=true↔(∀ j,i≤j→j<l.length→0≤List.getD l j 0∧List.getD l j 0≤1073741824)∧l.length≤16) (fun v hv=>hv.trans ⟨fun ⟨g1,g2⟩=>⟨fun j h1 h2=>by
        by_cases e:j=i
        · subst e; exact h
        · exact g1 j (by omega) h2,g2⟩,fun ⟨g1,g2⟩=>⟨fun j h1 h2=>g1 j (by omega) h2,g2⟩⟩)
      simp [-List.getD_eq_getElem?_getD,-List.length_eq_zero_iff,keepAll,freshHas,pathEq,eqPl_dec,wrap1,wrap0,nbeq,comes_call (fit3_spec _ true),(fit3_spec _ true).prop,fitP,hi,h]
      exact next
    · simp [-List.getD_eq_getElem?_getD,-List.length_eq_zero_iff,keepAll,freshHas,pathEq,eqPl_dec,wrap1,wrap0,nbeq,comes_call (fit3_spec _ true),(fit3_spec _ true).prop,fitP,hi,h]
      intro g
      exact absurd (g i (Nat.le_refl i) hi) h
theorem row3_spec (l:List Int) (hl:l.length≤1048576) (b:Bool):Comes (fun nf _ _ _=>innkeepref03_row nf (l) (b)) (fun r=>r.1.1=true↔rowP l (b=true)):=by
  refine Comes.succ (fun nf _ _ _=>innkeepref03_row.eq nf _ _) ?_
  cases b with
  | false=>simp [rowP]
  | true =>
    simp [rowP]
    exact (row3_l0 l hl _ _ 0 (Nat.zero_le _)).enter.mono (fun v hv=>by simpa using hv)
theorem mayC_spec (c:Cm) (h1:(cGives c).length≤1048576) (h2:(cWants c).length≤1048576):Comes (fun nf _ _ _=>innkeepref03_May nf (c)) (fun r=>r.1.1=true↔MayC c):=by
  have hmay:MayC c↔1≤cKind c∧cKind c≤10∧0≤cDir c∧cDir c≤3∧(¬ cDir c=0→cKind c≤2)∧fitP (cItem c) (3≤cKind c∧cKind c≤7)∧fitP (cBox c) (cKind c=5∨cKind c=6)∧fitP (cWho c) (cKind c=2∨cKind c=7∨cKind c=8)∧fitP (cPay c) (cKind c=8)∧fitP (cFee c) (cKind c=8)∧rowP (cGives c) (cKind c=8)∧rowP (cWants c) (cKind c=8) :=
    ⟨fun h=>⟨h.k1,h.k2,h.d1,h.d2,h.d3,h.item,h.box,h.who,h.pay,h.fee,h.gives,h.wants⟩,fun ⟨a,b,c,d,e,f,g,h,i,j,k,l⟩=>⟨a,b,c,d,e,f,g,h,i,j,k,l⟩⟩
  rw [hmay]
  have key:∀ (kd dir item box who pay fee:Int) (gives wants:List Int),gives.length≤1048576→wants.length≤1048576→Comes (fun nf _ _ _=>innkeepref03_May nf ((kd,dir,item,box,who,gives,pay,wants,fee,()))) (fun r=>r.1.1=true↔1≤kd∧kd≤10∧0≤dir∧dir≤3∧(¬ dir=0→kd≤2)∧fitP item (3≤kd∧kd≤7)∧fitP box (kd=5∨kd=6)∧fitP who (kd=2∨kd=7∨kd=8)∧fitP pay (kd=8)∧fitP fee (kd=8)∧rowP gives (kd=8)∧rowP wants (kd=8)):=by
    intro kd dir item box who pay fee gives wants h1 h2
    refine Comes.succ (fun nf _ _ _=>innkeepref03_May.eq nf _) ?_
    by_cases k1:kd<1
    · simp [k1]; omega
    by_cases k2:10<kd
    · simp [k1,k2]; omega
    by_cases d1:dir<0
    · simp [k1,k2,d1]; omega
    by_cases d2:3<dir
    · simp [k1,k2,d1,d2]; omega
    have d1':0≤dir:=by omega
    have d2':dir≤3:=by omega
    have hk:kd=1∨kd=2∨kd=3∨kd=4∨kd=5∨kd=6∨kd=7∨kd=8∨kd=9∨kd=10:=by omega
    rcases hk with rfl | rfl | rfl | rfl | rfl | rfl | rfl | rfl | rfl | rfl <;> by_cases d3:dir=0 <;> simp [d1,d2,d1',d2',d3,comes_call (fit3_spec _ _),(fit3_spec _ _).prop,comes_call (row3_spec gives h1 _),(row3_spec gives h1 _).bprop,comes_call (row3_spec wants h2 _),(row3_spec wants h2 _).bprop]
    all_goals grind
  exact key _ _ _ _ _ _ _ _ _ h1 h2
end Go.Proofs.Ytmemggdjnfccfaa.Ghost
namespace Go.Proofs.Ytmemggdjnfccfaa.Ghost
open Go
def FewC (c:Cm):Prop:=(cGives c).length≤40∧(cWants c).length≤40
theorem fewC_spec (c:Cm):Comes (fun nf _ _ _=>innkeepref03_Few nf (c)) (fun r=>r.1.1=true↔FewC c):=by
  refine Comes.succ (fun nf _ _ _=>innkeepref03_Few.eq nf _) ?_
  by_cases h:((cGives c).length:Int)≤40
  · simp [-List.getD_eq_getElem?_getD,-List.length_eq_zero_iff,keepAll,freshHas,pathEq,eqPl_dec,wrap1,wrap0,nbeq,h,FewC]
    have:(cGives c).length≤40:=by omega
    exact ⟨fun h'=>⟨this,Int.ofNat_le.1 h'⟩,fun h'=>Int.ofNat_le.2 h'.2⟩
  · simp [-List.getD_eq_getElem?_getD,-List.length_eq_zero_iff,keepAll,freshHas,pathEq,eqPl_dec,wrap1,wrap0,nbeq,h,FewC]
    intro h'; omega
end Go.Proofs.Ytmemggdjnfccfaa.Ghost
