/- What functions come to, and that the statements are answered with 'true'. Conditions: none. -/
import Derived.Test.YtmemggdjnfccfaaGreatDoorS
import Derived.Test.YtmemggdjnfccfaaGreatDoorGE
import Derived.Test.YtmemggdjnfccfaaGreatDoorP1
import Derived.Test.YtmemggdjnfccfaaGreatDoorP2
import Derived.Test.YtmemggdjnfccfaaGreatDoorP3
import Derived.Test.YtmemggdjnfccfaaGreatDoorP4
import Derived.Test.YtmemggdjnfccfaaGreatDoorP5
import Derived.Test.YtmemggdjnfccfaaGreatDoorP6
import Derived.Test.YtmemggdjnfccfaaGreatDoorP7
import Derived.Test.YtmemggdjnfccfaaGreatDoorP8
import Derived.Test.YtmemggdjnfccfaaGreatDoorP9
import Derived.Test.YtmemggdjnfccfaaGreatDoorP10
import Derived.Test.YtmemggdjnfccfaaGreatDoorP11
import Derived.Test.YtmemggdjnfccfaaGreatDoorP12
import Derived.Test.YtmemggdjnfccfaaGreatDoorP13
import Derived.Test.YtmemggdjnfccfaaGreatDoorP14
import Derived.Test.YtmemggdjnfccfaaGreatDoorP15
set_option linter.unusedVariables false
set_option linter.unusedSimpArgs false
set_option linter.unusedSectionVars false
set_option linter.unnecessarySimpa false
namespace Go.Proofs.YtmemggdjnfccfaaGreatDoor.Ghost
open Go
theorem ASw (l:List Ky) (hl:l.length≤1048576) (a b:Int) (t6:Bool):∀ i,i≤l.length→Zd (fun nf fm0 _ _=>Z8.l0 nf fm0 (l) (a) (b) t6 ((i:Int))) (fun r=>r.1.1=true↔((a,b,()):Ky)∈l.drop i):=by
  refine upto ?_ (fun i hi next => ?_)
  · refine Zd.succ1 (fun nf fm0 _ _=>Z8.l0_eq nf fm0 _ _ _ _ _) ?_
    rw [List.drop_length]
    simp [-List.getD_eq_getElem?_getD,-List.length_eq_zero_iff,Zp,Zm,Zy,Zo,Xj,Xi,Yb]
  · refine Zd.succ1 (fun nf fm0 _ _=>Z8.l0_eq nf fm0 _ _ _ _ _) ?_
    rw [← Xv (by omega)] at next
    rw [AKh (dft Za) hi]
    have e0:∀ x:Ky,((a,b,()):Ky)=x↔(x.1:Int)=a∧(x.2.1:Int)=b:=fun x=>by rw [eq_comm,AJi]
    simp only [Int.toNat_natCast,decide_eq_true (show (i:Int)<(l.length:Int) by omega),if_pos (show (0:Int)≤(i:Int)∧(i:Int)<(l.length:Int) by omega),cond_true]
    by_cases h1:((List.getD l i (dft Za)).1:Int)=a
    · by_cases h2:((List.getD l i (dft Za)).2.1:Int)=b
      · simp only [decide_eq_true h1,decide_eq_true h2,cond_true,Gu]
        exact ⟨fun _=>List.mem_cons.2 (.inl ((e0 _).2 ⟨h1,h2⟩)),fun _=>trivial⟩
      · simp only [decide_eq_true h1,decide_eq_false h2,cond_true,cond_false]
        exact next.mono (fun v hv=>hv.trans ⟨fun h'=>List.mem_cons.2 (.inr h'),fun h'=>(List.mem_cons.1 h').resolve_left (fun h=>h2 ((e0 _).1 h).2)⟩)
    · simp only [decide_eq_false h1,cond_false]
      exact next.mono (fun v hv=>hv.trans ⟨fun h'=>List.mem_cons.2 (.inr h'),fun h'=>(List.mem_cons.1 h').resolve_left (fun h=>h1 ((e0 _).1 h).1)⟩)
theorem AK0 (l:List Ky) (hl:l.length≤1048576) (a b:Int):Zd (fun nf _ _ _=>Z8 nf (l) (a) (b)) (fun r=>r.1.1=true↔((a,b,()):Ky)∈l):=by
  refine Zd.succ (fun nf _ _ _=>Z8.eq nf _ _ _) ?_
  exact (ASw l hl a b false 0 (Nat.zero_le _)).enter
def AUl (l:List Ky) (w n:den Zb) (i:Nat):Prop:=∀ j,i≤j→j<List.length (w.2.1:List Int)→¬ (Yc w j=Yc n j∧Yw w j=Yw n j)→(((1:Int),(j:Int),()):Ky)∈l
def AUk (l:List Ky) (w n:den Zb) (i:Nat):Prop:=∀ j,i≤j→j<List.length (w.2.2.2.1:List (den Za))→¬ Xs w j=Xs n j→(Xd w j:Ky)∈l∧(Xd n j:Ky)∈l
structure AEo (w n:den Zb):Prop where
  okw:Ok w
  okn:Ok n
  desc:n.1=w.1
theorem AEo.at_ {w n:den Zb} (h:AEo w n):List.length (n.2.1:List Int)=List.length (w.2.1:List Int):=by rw [h.okn.right.a1,h.okw.right.a1,h.desc]
theorem AEo.co {w n:den Zb} (h:AEo w n):List.length (w.2.2.1:List Int)=List.length (w.2.1:List Int)∧List.length (n.2.2.1:List Int)=List.length (w.2.1:List Int):=by
  refine ⟨?_,?_⟩
  · rw [h.okw.right.c1,h.okw.right.a1]
  · rw [h.okn.right.c1,h.okw.right.a1,h.desc]
theorem AEo.wh {w n:den Zb} (h:AEo w n):List.length (n.2.2.2.1:List (den Za))=List.length (w.2.2.2.1:List (den Za)):=by rw [h.okn.right.w1,h.okw.right.w1,h.desc]
theorem AUl.step {l:List Ky} {w n:den Zb} {i:Nat}:AUl l w n i↔(i<List.length (w.2.1:List Int)→¬ (Yc w i=Yc n i∧Yw w i=Yw n i)→(((1:Int),(i:Int),()):Ky)∈l)∧AUl l w n (i+1) :=
  ⟨fun h=>⟨fun hi=>h i (Nat.le_refl i) hi,fun j hj=>h j (by omega)⟩,fun ⟨h1,h2⟩ j hj hl=>by
    by_cases e:j=i
    · subst e; exact h1 hl
    · exact h2 j (by omega) hl⟩
theorem AUk.step {l:List Ky} {w n:den Zb} {i:Nat}:AUk l w n i↔(i<List.length (w.2.2.2.1:List (den Za))→¬ Xs w i=Xs n i→(Xd w i:Ky)∈l∧(Xd n i:Ky)∈l)∧AUk l w n (i+1) :=
  ⟨fun h=>⟨fun hi=>h i (Nat.le_refl i) hi,fun j hj=>h j (by omega)⟩,fun ⟨h1,h2⟩ j hj hl=>by
    by_cases e:j=i
    · subst e; exact h1 hl
    · exact h2 j (by omega) hl⟩
end Go.Proofs.YtmemggdjnfccfaaGreatDoor.Ghost
