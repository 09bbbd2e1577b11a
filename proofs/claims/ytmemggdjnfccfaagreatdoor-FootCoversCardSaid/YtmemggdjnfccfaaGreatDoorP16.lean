/- What functions come to, and that the statements are answered with 'true'. Conditions: none. -/
import Derived.Test.YtmemggdjnfccfaaGreatDoorS
import Derived.Test.YtmemggdjnfccfaaGreatDoorGE
import Derived.Test.YtmemggdjnfccfaaGreatDoorP1
import Derived.Test.YtmemggdjnfccfaaGreatDoorP2
import Derived.Test.YtmemggdjnfccfaaGreatDoorP3
import Derived.Test.YtmemggdjnfccfaaGreatDoorP4
import Derived.Test.YtmemggdjnfccfaaGreatDoorP5
import Derived.Test.YtmemggdjnfccfaaGreatDoorP6
import Derived.Test.YtmemggdjnfccfaaGreatDoorP7
import Derived.Test.YtmemggdjnfccfaaGreatDoorP8
import Derived.Test.YtmemggdjnfccfaaGreatDoorP9
import Derived.Test.YtmemggdjnfccfaaGreatDoorP10
import Derived.Test.YtmemggdjnfccfaaGreatDoorP11
import Derived.Test.YtmemggdjnfccfaaGreatDoorP12
import Derived.Test.YtmemggdjnfccfaaGreatDoorP13
import Derived.Test.YtmemggdjnfccfaaGreatDoorP14
import Derived.Test.YtmemggdjnfccfaaGreatDoorP15
set_option linter.unusedVariables false
set_option linter.unusedSimpArgs false
set_option linter.unusedSectionVars false
set_option linter.unnecessarySimpa false
namespace Go.Proofs.YtmemggdjnfccfaaGreatDoor.Ghost
open Go
theorem ASb (l:List Ky) (hl:l.length≤1048576) (k:Ky) (t1:(den Za)) (t4:Int):∀ i,i≤l.length→Ze (fun nf fm0 _ _=>Zm.l0 nf fm0 (l) t1 t4 ((l.length:Int)) ((i:Int)) (k)) (fun r=>0≤r.1.1↔k∈l.drop i):=by
  refine upto ?_ (fun i hi next => ?_)
  · refine Ze.succ1 (fun nf fm0 _ _=>Zm.l0_eq nf fm0 _ _ _ _ _ _) ?_
    rw [List.drop_length]
    simp [-List.getD_eq_getElem?_getD,-List.length_eq_zero_iff,Zq,Zl,Zu,Zo,Z9,Z8,Xx]
  · refine Ze.succ1 (fun nf fm0 _ _=>Zm.l0_eq nf fm0 _ _ _ _ _ _) ?_
    rw [← Xv (by omega)] at next
    rw [AA7 (dft Za) hi]
    by_cases h:k=List.getD l i (dft Za)
    · have e:eqT Za k (List.getD l i (dft Za))=true:=(Iv _ _).2 h
      simp only [Int.toNat_natCast,e,decide_eq_true (show (i:Int)<(l.length:Int) by omega),if_pos (show (0:Int)≤(i:Int)∧(i:Int)<(l.length:Int) by omega),cond_true,V9]
      exact ⟨fun _=>List.mem_cons.2 (.inl h),fun _=>by show (0:Int)≤(i:Int); omega⟩
    · have e:eqT Za k (List.getD l i (dft Za))=false:=by rw [AM0]; exact h
      simp only [Int.toNat_natCast,e,decide_eq_true (show (i:Int)<(l.length:Int) by omega),if_pos (show (0:Int)≤(i:Int)∧(i:Int)<(l.length:Int) by omega),cond_true,cond_false]
      exact next.mono (fun v hv=>hv.trans ⟨fun h'=>List.mem_cons.2 (.inr h'),fun h'=>(List.mem_cons.1 h').resolve_left h⟩)
theorem Ls (l:List Ky) (hl:l.length≤1048576) (a b:Int):Ze (fun nf _ _ _=>Yq nf (a) (b) (l)) (fun r=>r.1.1=true↔((a,b,()):Ky)∈l):=by
  have h:=(ASb l hl ((a,b,()):Ky) ((a,b,()):Ky) 0 0 (Nat.zero_le _)).enter
  have h1:Ze (fun nf _ _ _=>Zm nf (l) (((a,b,()):Ky))) (fun r=>0≤r.1.1↔((a,b,()):Ky)∈l):=by
    refine Ze.succ (fun nf _ _ _=>Zm.eq nf _ _) ?_
    exact h
  have h2:Ze (fun nf _ _ _=>Z7 nf (l) (((a,b,()):Ky))) (fun r=>r.1.1=true↔((a,b,()):Ky)∈l):=by
    refine Ze.succ (fun nf _ _ _=>Z7.eq nf _ _) ?_
    rw [Zd h1,V9]
    exact decide_eq_true_iff.trans h1.prop
  refine Ze.succ (fun nf _ _ _=>Yq.eq nf _ _ _) ?_
  rw [Zd h2,V9]
  exact h2.prop
theorem AR9 (l:List Ky) (hl:l.length≤1048576) (a b:Int) (t6:Bool):∀ i,i≤l.length→Ze (fun nf fm0 _ _=>Zz.l0 nf fm0 (l) (a) (b) t6 ((i:Int))) (fun r=>r.1.1=true↔((a,b,()):Ky)∈l.drop i):=by
  refine upto ?_ (fun i hi next => ?_)
  · refine Ze.succ1 (fun nf fm0 _ _=>Zz.l0_eq nf fm0 _ _ _ _ _) ?_
    rw [List.drop_length]
    simp [-List.getD_eq_getElem?_getD,-List.length_eq_zero_iff,Zq,Zl,Zu,Zo,Z9,Z8,Xx]
  · refine Ze.succ1 (fun nf fm0 _ _=>Zz.l0_eq nf fm0 _ _ _ _ _) ?_
    rw [← Xv (by omega)] at next
    rw [AA7 (dft Za) hi]
    have e0:∀ x:Ky,((a,b,()):Ky)=x↔(x.1:Int)=a∧(x.2.1:Int)=b:=fun x=>by rw [eq_comm,AIy]
    simp only [Int.toNat_natCast,decide_eq_true (show (i:Int)<(l.length:Int) by omega),if_pos (show (0:Int)≤(i:Int)∧(i:Int)<(l.length:Int) by omega),cond_true]
    by_cases h1:((List.getD l i (dft Za)).1:Int)=a
    · by_cases h2:((List.getD l i (dft Za)).2.1:Int)=b
      · simp only [decide_eq_true h1,decide_eq_true h2,cond_true,V9]
        exact ⟨fun _=>List.mem_cons.2 (.inl ((e0 _).2 ⟨h1,h2⟩)),fun _=>trivial⟩
      · simp only [decide_eq_true h1,decide_eq_false h2,cond_true,cond_false]
        exact next.mono (fun v hv=>hv.trans ⟨fun h'=>List.mem_cons.2 (.inr h'),fun h'=>(List.mem_cons.1 h').resolve_left (fun h=>h2 ((e0 _).1 h).2)⟩)
    · simp only [decide_eq_false h1,cond_false]
      exact next.mono (fun v hv=>hv.trans ⟨fun h'=>List.mem_cons.2 (.inr h'),fun h'=>(List.mem_cons.1 h').resolve_left (fun h=>h1 ((e0 _).1 h).1)⟩)
theorem Gk (l:List Ky) (hl:l.length≤1048576) (a b:Int):Ze (fun nf _ _ _=>Zz nf (l) (a) (b)) (fun r=>r.1.1=true↔((a,b,()):Ky)∈l):=by
  refine Ze.succ (fun nf _ _ _=>Zz.eq nf _ _ _) ?_
  exact (AR9 l hl a b false 0 (Nat.zero_le _)).enter
def M7 (l:List Ky) (w n:den Zb) (i:Nat):Prop:=∀ j,i≤j→j<List.length (w.2.1:List Int)→¬ (Qi w j=Qi n j∧Yv w j=Yv n j)→(((1:Int),(j:Int),()):Ky)∈l
def Gx (l:List Ky) (w n:den Zb) (i:Nat):Prop:=∀ j,i≤j→j<List.length (w.2.2.2.1:List (den Za))→¬ Yb w j=Yb n j→(Xz w j:Ky)∈l∧(Xz n j:Ky)∈l
structure F3 (w n:den Zb):Prop where
  okw:Ok w
  okn:Ok n
  desc:n.1=w.1
theorem F3.at_ {w n:den Zb} (h:F3 w n):List.length (n.2.1:List Int)=List.length (w.2.1:List Int):=by rw [h.okn.right.a1,h.okw.right.a1,h.desc]
theorem F3.co {w n:den Zb} (h:F3 w n):List.length (w.2.2.1:List Int)=List.length (w.2.1:List Int)∧List.length (n.2.2.1:List Int)=List.length (w.2.1:List Int):=by
  refine ⟨?_,?_⟩
  · rw [h.okw.right.c1,h.okw.right.a1]
  · rw [h.okn.right.c1,h.okw.right.a1,h.desc]
theorem F3.wh {w n:den Zb} (h:F3 w n):List.length (n.2.2.2.1:List (den Za))=List.length (w.2.2.2.1:List (den Za)):=by rw [h.okn.right.w1,h.okw.right.w1,h.desc]
theorem M7.step {l:List Ky} {w n:den Zb} {i:Nat}:M7 l w n i↔(i<List.length (w.2.1:List Int)→¬ (Qi w i=Qi n i∧Yv w i=Yv n i)→(((1:Int),(i:Int),()):Ky)∈l)∧M7 l w n (i+1) :=
  ⟨fun h=>⟨fun hi=>h i (Nat.le_refl i) hi,fun j hj=>h j (by omega)⟩,fun ⟨h1,h2⟩ j hj hl=>by
    by_cases e:j=i
    · subst e; exact h1 hl
    · exact h2 j (by omega) hl⟩
theorem Gx.step {l:List Ky} {w n:den Zb} {i:Nat}:Gx l w n i↔(i<List.length (w.2.2.2.1:List (den Za))→¬ Yb w i=Yb n i→(Xz w i:Ky)∈l∧(Xz n i:Ky)∈l)∧Gx l w n (i+1) :=
  ⟨fun h=>⟨fun hi=>h i (Nat.le_refl i) hi,fun j hj=>h j (by omega)⟩,fun ⟨h1,h2⟩ j hj hl=>by
    by_cases e:j=i
    · subst e; exact h1 hl
    · exact h2 j (by omega) hl⟩
theorem AR3 (l:List Ky) (hl:l.length≤1048576) {w n:den Zb} (t:F3 w n) (t0:(List (den Za))) (t1:(den Zb)) (t2:(den Zb)) (t6:Bool) (t15:Int) (t16:Int):∀ i,i≤List.length (w.2.2.2.1:List (den Za))→Ze (fun nf fm0 _ _=>Z5.l1 nf fm0 t0 t1 t2 t6 t15 t16 ((List.length (w.2.2.2.1:List (den Za)):Int)) ((i:Int)) (l) (w) (n)) (fun r=>r.1.1=true↔Gx l w n i):=by
  have hs:=t.okw.sm.wh
  refine upto ?_ (fun i hi next => ?_)
  · refine Ze.succ1 (fun nf fm0 _ _=>Z5.l1_eq nf fm0 _ _ _ _ _ _ _ _ _ _ _) ?_
    simp [-List.getD_eq_getElem?_getD,-List.length_eq_zero_iff,Zq,Zl,Zu,Zo,Z9,Z8,Xx]
    intro j h1 h2; omega
  · refine Ze.succ1 (fun nf fm0 _ _=>Z5.l1_eq nf fm0 _ _ _ _ _ _ _ _ _ _ _) ?_
    rw [← Xv (by omega)] at next
    have hin:i<List.length (n.2.2.2.1:List (den Za)):=by rw [t.wh]; exact hi
    have r1:=G2 w t.okw.right hi
    have r2:=G2 n t.okn.right hin
    have c1:=Ls l hl (Xz w i).1 (Xz w i).2.1
    have c2:=Ls l hl (Xz n i).1 (Xz n i).2.1
    by_cases he:Yb w i=Yb n i
    · have:Gx l w n i↔Gx l w n (i+1):=Gx.step.trans ⟨fun h=>h.2,fun h=>⟨fun _ hn=>absurd he hn,h⟩⟩
      simp [-List.getD_eq_getElem?_getD,-List.length_eq_zero_iff,Zq,Zl,Zu,Zo,Z9,Z8,Xx,hi,hin,Zd (r1),(r1).prop,Zd (r2),(r2).prop,he,this]
      exact next
    · by_cases a1:(Xz w i:Ky)∈l
      · by_cases a2:(Xz n i:Ky)∈l
        · have:Gx l w n i↔Gx l w n (i+1):=Gx.step.trans ⟨fun h=>h.2,fun h=>⟨fun _ _=>⟨a1,a2⟩,h⟩⟩
          simp [-List.getD_eq_getElem?_getD,-List.length_eq_zero_iff,Zq,Zl,Zu,Zo,Z9,Z8,Xx,hi,hin,Zd (r1),(r1).prop,Zd (r2),(r2).prop,Zd (c1),(c1).bprop,Zd (c2),(c2).bprop,he,this,a1,a2]
          exact next
        · have:¬ Gx l w n i:=fun h=>a2 (h i (Nat.le_refl i) hi he).2
          simp [-List.getD_eq_getElem?_getD,-List.length_eq_zero_iff,Zq,Zl,Zu,Zo,Z9,Z8,Xx,hi,hin,Zd (r1),(r1).prop,Zd (r2),(r2).prop,Zd (c1),(c1).bprop,Zd (c2),(c2).bprop,he,this,a1,a2]
      · have:¬ Gx l w n i:=fun h=>a1 (h i (Nat.le_refl i) hi he).1
        simp [-List.getD_eq_getElem?_getD,-List.length_eq_zero_iff,Zq,Zl,Zu,Zo,Z9,Z8,Xx,hi,hin,Zd (r1),(r1).prop,Zd (r2),(r2).prop,Zd (c1),(c1).bprop,Zd (c2),(c2).bprop,he,this,a1]
theorem ASp (l:List Ky) (hl:l.length≤1048576) {w n:den Zb} (t:F3 w n) (t1:(den Zb)) (t2:(den Zb)) (t6:Bool) (t7:Int):∀ i,i≤List.length (w.2.2.2.1:List (den Za))→Ze (fun nf fm0 _ _=>Zk.l1 nf fm0 (l) t1 t2 t6 t7 ((i:Int)) (w) (n)) (fun r=>r.1.1=true↔Gx l w n i):=by
  have hs:=t.okw.sm.wh
  refine upto ?_ (fun i hi next => ?_)
  · refine Ze.succ1 (fun nf fm0 _ _=>Zk.l1_eq nf fm0 _ _ _ _ _ _ _ _) ?_
    simp [-List.getD_eq_getElem?_getD,-List.length_eq_zero_iff,Zq,Zl,Zu,Zo,Z9,Z8,Xx]
    intro j h1 h2; omega
  · refine Ze.succ1 (fun nf fm0 _ _=>Zk.l1_eq nf fm0 _ _ _ _ _ _ _ _) ?_
    rw [← Xv (by omega)] at next
    have hin:i<List.length (n.2.2.2.1:List (den Za)):=by rw [t.wh]; exact hi
    have r1:=Ot w t.okw.right 51 i hi (t.okw.right.ends hi)
    have r2:=Ot n t.okn.right 51 i hin (t.okn.right.ends hin)
    have c1:=Gk l hl (Xz w i).1 (Xz w i).2.1
    have c2:=Gk l hl (Xz n i).1 (Xz n i).2.1
    by_cases he:Yb w i=Yb n i
    · have:Gx l w n i↔Gx l w n (i+1):=Gx.step.trans ⟨fun h=>h.2,fun h=>⟨fun _ hn=>absurd he hn,h⟩⟩
      simp [-List.getD_eq_getElem?_getD,-List.length_eq_zero_iff,Zq,Zl,Zu,Zo,Z9,Z8,Xx,hi,hin,he,this]
      exact next
    · by_cases a1:(Xz w i:Ky)∈l
      · by_cases a2:(Xz n i:Ky)∈l
        · have:Gx l w n i↔Gx l w n (i+1):=Gx.step.trans ⟨fun h=>h.2,fun h=>⟨fun _ _=>⟨a1,a2⟩,h⟩⟩
          simp [-List.getD_eq_getElem?_getD,-List.length_eq_zero_iff,Zq,Zl,Zu,Zo,Z9,Z8,Xx,hi,hin,Zd (r1),(r1).prop,Zd (r2),(r2).prop,Zd (c1),(c1).bprop,Zd (c2),(c2).bprop,he,this,a1,a2]
          exact next
        · have:¬ Gx l w n i:=fun h=>a2 (h i (Nat.le_refl i) hi he).2
          simp [-List.getD_eq_getElem?_getD,-List.length_eq_zero_iff,Zq,Zl,Zu,Zo,Z9,Z8,Xx,hi,hin,Zd (r1),(r1).prop,Zd (r2),(r2).prop,Zd (c1),(c1).bprop,Zd (c2),(c2).bprop,he,this,a1,a2]
      · have:¬ Gx l w n i:=fun h=>a1 (h i (Nat.le_refl i) hi he).1
        simp [-List.getD_eq_getElem?_getD,-List.length_eq_zero_iff,Zq,Zl,Zu,Zo,Z9,Z8,Xx,hi,hin,Zd (r1),(r1).prop,Zd (r2),(r2).prop,Zd (c1),(c1).bprop,Zd (c2),(c2).bprop,he,this,a1]
theorem AR2 (l:List Ky) (hl:l.length≤1048576) {w n:den Zb} (t:F3 w n) (t0:(List (den Za))) (t1:(den Zb)) (t2:(den Zb)) (t6:Bool):∀ i,i≤List.length (w.2.1:List Int)→Ze (fun nf fm0 _ _=>Z5.l0 nf fm0 t0 t1 t2 t6 ((List.length (w.2.1:List Int):Int)) ((i:Int)) (l) (w) (n)) (fun r=>r.1.1=true↔M7 l w n i∧Gx l w n 0):=by
  have hs:=t.okw.sm.a
  refine upto ?_ (fun i hi next => ?_)
  · refine Ze.succ1 (fun nf fm0 _ _=>Z5.l0_eq nf fm0 _ _ _ _ _ _ _ _ _) ?_
    have h1:=(AR3 l hl t t0 t1 t2 t6 (List.length (w.2.1:List Int):Int) (List.length (w.2.1:List Int):Int) 0 (Nat.zero_le _)).enter
    simp [-List.getD_eq_getElem?_getD,-List.length_eq_zero_iff,Zq,Zl,Zu,Zo,Z9,Z8,Xx]
    exact h1.mono (fun v hv=>hv.trans ⟨fun h=>⟨fun j h1 h2=>by omega,h⟩,fun h=>h.2⟩)
  · refine Ze.succ1 (fun nf fm0 _ _=>Z5.l0_eq nf fm0 _ _ _ _ _ _ _ _ _) ?_
    rw [← Xv (by omega)] at next
    have hin:i<List.length (n.2.1:List Int):=by rw [t.at_]; exact hi
    have hc1:i<List.length (w.2.2.1:List Int):=by rw [t.co.1]; exact hi
    have hc2:i<List.length (n.2.2.1:List Int):=by rw [t.co.2]; exact hi
    have c1:=Ls l hl 1 (i:Int)
    have yes:(¬ (Qi w i=Qi n i∧Yv w i=Yv n i)→(((1:Int),(i:Int),()):Ky)∈l)→(M7 l w n i∧Gx l w n 0↔M7 l w n (i+1)∧Gx l w n 0):=fun h0=>and_congr_left' (M7.step.trans ⟨fun h=>h.2,fun h=>⟨fun _=>h0,h⟩⟩)
    have no:¬ (Qi w i=Qi n i∧Yv w i=Yv n i)→¬ (((1:Int),(i:Int),()):Ky)∈l→¬ (M7 l w n i∧Gx l w n 0):=fun h1 h2 h=>h2 (h.1 i (Nat.le_refl i) hi h1)
    by_cases e1:Qi w i=Qi n i
    · by_cases e2:Yv w i=Yv n i
      · rw [yes (fun h=>absurd ⟨e1,e2⟩ h)]
        simp [-List.getD_eq_getElem?_getD,-List.length_eq_zero_iff,Zq,Zl,Zu,Zo,Z9,Z8,Xx,hi,hin,hc1,hc2,e1,e2]
        exact next
      · by_cases a1:(((1:Int),(i:Int),()):Ky)∈l
        · rw [yes (fun _=>a1)]
          simp [-List.getD_eq_getElem?_getD,-List.length_eq_zero_iff,Zq,Zl,Zu,Zo,Z9,Z8,Xx,hi,hin,hc1,hc2,e1,e2,Zd (c1),(c1).bprop,a1]
          exact next
        · have:=no (fun h=>e2 h.2) a1
          simp [-List.getD_eq_getElem?_getD,-List.length_eq_zero_iff,Zq,Zl,Zu,Zo,Z9,Z8,Xx,hi,hin,hc1,hc2,e1,e2,Zd (c1),(c1).bprop,a1,this]
    · by_cases a1:(((1:Int),(i:Int),()):Ky)∈l
      · rw [yes (fun _=>a1)]
        simp [-List.getD_eq_getElem?_getD,-List.length_eq_zero_iff,Zq,Zl,Zu,Zo,Z9,Z8,Xx,hi,hin,hc1,hc2,e1,Zd (c1),(c1).bprop,a1]
        exact next
      · have:=no (fun h=>e1 h.1) a1
        simp [-List.getD_eq_getElem?_getD,-List.length_eq_zero_iff,Zq,Zl,Zu,Zo,Z9,Z8,Xx,hi,hin,hc1,hc2,e1,Zd (c1),(c1).bprop,a1,this]
theorem ASo (l:List Ky) (hl:l.length≤1048576) {w n:den Zb} (t:F3 w n) (t1:(den Zb)) (t2:(den Zb)) (t6:Bool):∀ i,i≤List.length (w.2.1:List Int)→Ze (fun nf fm0 _ _=>Zk.l0 nf fm0 (l) t1 t2 t6 ((i:Int)) (w) (n)) (fun r=>r.1.1=true↔M7 l w n i∧Gx l w n 0):=by
  have hs:=t.okw.sm.a
  refine upto ?_ (fun i hi next => ?_)
  · refine Ze.succ1 (fun nf fm0 _ _=>Zk.l0_eq nf fm0 _ _ _ _ _ _ _) ?_
    have h1:=(ASp l hl t t1 t2 t6 (List.length (w.2.1:List Int):Int) 0 (Nat.zero_le _)).enter
    simp [-List.getD_eq_getElem?_getD,-List.length_eq_zero_iff,Zq,Zl,Zu,Zo,Z9,Z8,Xx]
    exact h1.mono (fun v hv=>hv.trans ⟨fun h=>⟨fun j h1 h2=>by omega,h⟩,fun h=>h.2⟩)
  · refine Ze.succ1 (fun nf fm0 _ _=>Zk.l0_eq nf fm0 _ _ _ _ _ _ _) ?_
    rw [← Xv (by omega)] at next
    have hin:i<List.length (n.2.1:List Int):=by rw [t.at_]; exact hi
    have hc1:i<List.length (w.2.2.1:List Int):=by rw [t.co.1]; exact hi
    have hc2:i<List.length (n.2.2.1:List Int):=by rw [t.co.2]; exact hi
    have c1:=Gk l hl 1 (i:Int)
    have yes:(¬ (Qi w i=Qi n i∧Yv w i=Yv n i)→(((1:Int),(i:Int),()):Ky)∈l)→(M7 l w n i∧Gx l w n 0↔M7 l w n (i+1)∧Gx l w n 0):=fun h0=>and_congr_left' (M7.step.trans ⟨fun h=>h.2,fun h=>⟨fun _=>h0,h⟩⟩)
    have no:¬ (Qi w i=Qi n i∧Yv w i=Yv n i)→¬ (((1:Int),(i:Int),()):Ky)∈l→¬ (M7 l w n i∧Gx l w n 0):=fun h1 h2 h=>h2 (h.1 i (Nat.le_refl i) hi h1)
    by_cases e1:Qi w i=Qi n i
    · by_cases e2:Yv w i=Yv n i
      · rw [yes (fun h=>absurd ⟨e1,e2⟩ h)]
        simp [-List.getD_eq_getElem?_getD,-List.length_eq_zero_iff,Zq,Zl,Zu,Zo,Z9,Z8,Xx,hi,hin,hc1,hc2,e1,e2]
        exact next
      · by_cases a1:(((1:Int),(i:Int),()):Ky)∈l
        · rw [yes (fun _=>a1)]
          simp [-List.getD_eq_getElem?_getD,-List.length_eq_zero_iff,Zq,Zl,Zu,Zo,Z9,Z8,Xx,hi,hin,hc1,hc2,e1,e2,Zd (c1),(c1).bprop,a1]
          exact next
        · have:=no (fun h=>e2 h.2) a1
          simp [-List.getD_eq_getElem?_getD,-List.length_eq_zero_iff,Zq,Zl,Zu,Zo,Z9,Z8,Xx,hi,hin,hc1,hc2,e1,e2,Zd (c1),(c1).bprop,a1,this]
    · by_cases a1:(((1:Int),(i:Int),()):Ky)∈l
      · rw [yes (fun _=>a1)]
        simp [-List.getD_eq_getElem?_getD,-List.length_eq_zero_iff,Zq,Zl,Zu,Zo,Z9,Z8,Xx,hi,hin,hc1,hc2,e1,Zd (c1),(c1).bprop,a1]
        exact next
      · have:=no (fun h=>e1 h.1) a1
        simp [-List.getD_eq_getElem?_getD,-List.length_eq_zero_iff,Zq,Zl,Zu,Zo,Z9,Z8,Xx,hi,hin,hc1,hc2,e1,Zd (c1),(c1).bprop,a1,this]
theorem ABd (l:List Ky) (hl:l.length≤1048576) {w n:den Zb} (t:F3 w n):Ze (fun nf _ _ _=>Z5 nf (l) (w) (n)) (fun r=>r.1.1=true↔M7 l w n 0∧Gx l w n 0):=by
  refine Ze.succ (fun nf _ _ _=>Z5.eq nf _ _ _) ?_
  exact (AR2 l hl t l w n false 0 (Nat.zero_le _)).enter
theorem AB7 (l:List Ky) (hl:l.length≤1048576) {w n:den Zb} (t:F3 w n):Ze (fun nf _ _ _=>Zk nf (l) (w) (n)) (fun r=>r.1.1=true↔M7 l w n 0∧Gx l w n 0):=by
  refine Ze.succ (fun nf _ _ _=>Zk.eq nf _ _ _) ?_
  exact (ASo l hl t w n false 0 (Nat.zero_le _)).enter
end Go.Proofs.YtmemggdjnfccfaaGreatDoor.Ghost
