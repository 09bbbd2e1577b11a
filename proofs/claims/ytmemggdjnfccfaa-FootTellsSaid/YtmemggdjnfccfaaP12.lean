/- What functions come to, and that the statements are answered with 'true'. Conditions: none. -/
import Derived.Test.YtmemggdjnfccfaaS
import Derived.Test.YtmemggdjnfccfaaGE
import Derived.Test.YtmemggdjnfccfaaP1
import Derived.Test.YtmemggdjnfccfaaP2
import Derived.Test.YtmemggdjnfccfaaP3
import Derived.Test.YtmemggdjnfccfaaP4
import Derived.Test.YtmemggdjnfccfaaP5
import Derived.Test.YtmemggdjnfccfaaP6
import Derived.Test.YtmemggdjnfccfaaP7
import Derived.Test.YtmemggdjnfccfaaP8
import Derived.Test.YtmemggdjnfccfaaP9
import Derived.Test.YtmemggdjnfccfaaP10
import Derived.Test.YtmemggdjnfccfaaP11
set_option linter.unusedVariables false
set_option linter.unusedSimpArgs false
set_option linter.unusedSectionVars false
set_option linter.unnecessarySimpa false
namespace Go.Proofs.Ytmemggdjnfccfaa.Ghost
open Go
theorem idxK_l0 (l:List Ky) (hl:l.length≤1048576) (k:Ky) (t1:(den tPlace)) (t4:Int):∀ i,i≤l.length→Comes (fun nf fm0 _ _=>slices_Index_sapi_Key_api_Key.l0 nf fm0 (l) t1 t4 ((l.length:Int)) ((i:Int)) (k)) (fun r=>0≤r.1.1↔k∈l.drop i):=by
  refine upto ?_ (fun i hi next => ?_)
  · refine Comes.succ1 (fun nf fm0 _ _=>slices_Index_sapi_Key_api_Key.l0_eq nf fm0 _ _ _ _ _ _) ?_
    rw [List.drop_length]
    simp [-List.getD_eq_getElem?_getD,-List.length_eq_zero_iff,keepAll,freshHas,pathEq,eqPl_dec,wrap1,wrap0,nbeq]
  · refine Comes.succ1 (fun nf fm0 _ _=>slices_Index_sapi_Key_api_Key.l0_eq nf fm0 _ _ _ _ _ _) ?_
    rw [← wrap_succ (by omega)] at next
    rw [drop_getD (dft tPlace) hi]
    by_cases h:k=List.getD l i (dft tPlace)
    · have e:eqT tPlace k (List.getD l i (dft tPlace))=true:=(eqPl _ _).2 h
      simp only [Int.toNat_natCast,e,decide_eq_true (show (i:Int)<(l.length:Int) by omega),if_pos (show (0:Int)≤(i:Int)∧(i:Int)<(l.length:Int) by omega),cond_true,comes_ret]
      exact ⟨fun _=>List.mem_cons.2 (.inl h),fun _=>by show (0:Int)≤(i:Int); omega⟩
    · have e:eqT tPlace k (List.getD l i (dft tPlace))=false:=by rw [eqPl_f]; exact h
      simp only [Int.toNat_natCast,e,decide_eq_true (show (i:Int)<(l.length:Int) by omega),if_pos (show (0:Int)≤(i:Int)∧(i:Int)<(l.length:Int) by omega),cond_true,cond_false]
      exact next.mono (fun v hv=>hv.trans ⟨fun h'=>List.mem_cons.2 (.inr h'),fun h'=>(List.mem_cons.1 h').resolve_left h⟩)
theorem contK_spec (l:List Ky) (hl:l.length≤1048576) (a b:Int):Comes (fun nf _ _ _=>foot_Covers_1 nf (a) (b) (l)) (fun r=>r.1.1=true↔((a,b,()):Ky)∈l):=by
  have h:=(idxK_l0 l hl ((a,b,()):Ky) ((a,b,()):Ky) 0 0 (Nat.zero_le _)).enter
  have h1:Comes (fun nf _ _ _=>slices_Index_sapi_Key_api_Key nf (l) (((a,b,()):Ky))) (fun r=>0≤r.1.1↔((a,b,()):Ky)∈l):=by
    refine Comes.succ (fun nf _ _ _=>slices_Index_sapi_Key_api_Key.eq nf _ _) ?_
    exact h
  have h2:Comes (fun nf _ _ _=>slices_Contains_sapi_Key_api_Key nf (l) (((a,b,()):Ky))) (fun r=>r.1.1=true↔((a,b,()):Ky)∈l):=by
    refine Comes.succ (fun nf _ _ _=>slices_Contains_sapi_Key_api_Key.eq nf _ _) ?_
    rw [comes_call h1,comes_ret]
    exact decide_eq_true_iff.trans h1.prop
  refine Comes.succ (fun nf _ _ _=>foot_Covers_1.eq nf _ _ _) ?_
  rw [comes_call h2,comes_ret]
  exact h2.prop
theorem hasK_l0 (l:List Ky) (hl:l.length≤1048576) (a b:Int) (t6:Bool):∀ i,i≤l.length→Comes (fun nf fm0 _ _=>innkeepref16_Has.l0 nf fm0 (l) (a) (b) t6 ((i:Int))) (fun r=>r.1.1=true↔((a,b,()):Ky)∈l.drop i):=by
  refine upto ?_ (fun i hi next => ?_)
  · refine Comes.succ1 (fun nf fm0 _ _=>innkeepref16_Has.l0_eq nf fm0 _ _ _ _ _) ?_
    rw [List.drop_length]
    simp [-List.getD_eq_getElem?_getD,-List.length_eq_zero_iff,keepAll,freshHas,pathEq,eqPl_dec,wrap1,wrap0,nbeq]
  · refine Comes.succ1 (fun nf fm0 _ _=>innkeepref16_Has.l0_eq nf fm0 _ _ _ _ _) ?_
    rw [← wrap_succ (by omega)] at next
    rw [drop_getD (dft tPlace) hi]
    have e0:∀ x:Ky,((a,b,()):Ky)=x↔(x.1:Int)=a∧(x.2.1:Int)=b:=fun x=>by rw [eq_comm,ky_eq]
    simp only [Int.toNat_natCast,decide_eq_true (show (i:Int)<(l.length:Int) by omega),if_pos (show (0:Int)≤(i:Int)∧(i:Int)<(l.length:Int) by omega),cond_true]
    by_cases h1:((List.getD l i (dft tPlace)).1:Int)=a
    · by_cases h2:((List.getD l i (dft tPlace)).2.1:Int)=b
      · simp only [decide_eq_true h1,decide_eq_true h2,cond_true,comes_ret]
        exact ⟨fun _=>List.mem_cons.2 (.inl ((e0 _).2 ⟨h1,h2⟩)),fun _=>trivial⟩
      · simp only [decide_eq_true h1,decide_eq_false h2,cond_true,cond_false]
        exact next.mono (fun v hv=>hv.trans ⟨fun h'=>List.mem_cons.2 (.inr h'),fun h'=>(List.mem_cons.1 h').resolve_left (fun h=>h2 ((e0 _).1 h).2)⟩)
    · simp only [decide_eq_false h1,cond_false]
      exact next.mono (fun v hv=>hv.trans ⟨fun h'=>List.mem_cons.2 (.inr h'),fun h'=>(List.mem_cons.1 h').resolve_left (fun h=>h1 ((e0 _).1 h).1)⟩)
theorem hasK_spec (l:List Ky) (hl:l.length≤1048576) (a b:Int):Comes (fun nf _ _ _=>innkeepref16_Has nf (l) (a) (b)) (fun r=>r.1.1=true↔((a,b,()):Ky)∈l):=by
  refine Comes.succ (fun nf _ _ _=>innkeepref16_Has.eq nf _ _ _) ?_
  exact (hasK_l0 l hl a b false 0 (Nat.zero_le _)).enter
def CovP (l:List Ky) (w n:den tWorld) (i:Nat):Prop:=∀ j,i≤j→j<List.length (w.2.1:List Int)→¬ (atOf w j=atOf n j∧coinOf w j=coinOf n j)→(((1:Int),(j:Int),()):Ky)∈l
def CovI (l:List Ky) (w n:den tWorld) (i:Nat):Prop:=∀ j,i≤j→j<List.length (w.2.2.2.1:List (den tPlace))→¬ plOf w j=plOf n j→(rootOf w j:Ky)∈l∧(rootOf n j:Ky)∈l
structure Twin (w n:den tWorld):Prop where
  okw:Ok w
  okn:Ok n
  desc:n.1=w.1
theorem Twin.at_ {w n:den tWorld} (h:Twin w n):List.length (n.2.1:List Int)=List.length (w.2.1:List Int):=by rw [h.okn.right.a1,h.okw.right.a1,h.desc]
theorem Twin.co {w n:den tWorld} (h:Twin w n):List.length (w.2.2.1:List Int)=List.length (w.2.1:List Int)∧List.length (n.2.2.1:List Int)=List.length (w.2.1:List Int):=by
  refine ⟨?_,?_⟩
  · rw [h.okw.right.c1,h.okw.right.a1]
  · rw [h.okn.right.c1,h.okw.right.a1,h.desc]
theorem Twin.wh {w n:den tWorld} (h:Twin w n):List.length (n.2.2.2.1:List (den tPlace))=List.length (w.2.2.2.1:List (den tPlace)):=by rw [h.okn.right.w1,h.okw.right.w1,h.desc]
theorem CovP.step {l:List Ky} {w n:den tWorld} {i:Nat}:CovP l w n i↔(i<List.length (w.2.1:List Int)→¬ (atOf w i=atOf n i∧coinOf w i=coinOf n i)→(((1:Int),(i:Int),()):Ky)∈l)∧CovP l w n (i+1) :=
  ⟨fun h=>⟨fun hi=>h i (Nat.le_refl i) hi,fun j hj=>h j (by omega)⟩,fun ⟨h1,h2⟩ j hj hl=>by
    by_cases e:j=i
    · subst e; exact h1 hl
    · exact h2 j (by omega) hl⟩
theorem CovI.step {l:List Ky} {w n:den tWorld} {i:Nat}:CovI l w n i↔(i<List.length (w.2.2.2.1:List (den tPlace))→¬ plOf w i=plOf n i→(rootOf w i:Ky)∈l∧(rootOf n i:Ky)∈l)∧CovI l w n (i+1) :=
  ⟨fun h=>⟨fun hi=>h i (Nat.le_refl i) hi,fun j hj=>h j (by omega)⟩,fun ⟨h1,h2⟩ j hj hl=>by
    by_cases e:j=i
    · subst e; exact h1 hl
    · exact h2 j (by omega) hl⟩
theorem fcov_l1 (l:List Ky) (hl:l.length≤1048576) {w n:den tWorld} (t:Twin w n) (t0:(List (den tPlace))) (t1:(den tWorld)) (t2:(den tWorld)) (t6:Bool) (t15:Int) (t16:Int):∀ i,i≤List.length (w.2.2.2.1:List (den tPlace))→Comes (fun nf fm0 _ _=>foot_Covers.l1 nf fm0 t0 t1 t2 t6 t15 t16 ((List.length (w.2.2.2.1:List (den tPlace)):Int)) ((i:Int)) (l) (w) (n)) (fun r=>r.1.1=true↔CovI l w n i):=by
  have hs:=t.okw.sm.wh
  refine upto ?_ (fun i hi next => ?_)
  · refine Comes.succ1 (fun nf fm0 _ _=>foot_Covers.l1_eq nf fm0 _ _ _ _ _ _ _ _ _ _ _) ?_
    simp [-List.getD_eq_getElem?_getD,-List.length_eq_zero_iff,keepAll,freshHas,pathEq,eqPl_dec,wrap1,wrap0,nbeq]
    intro j h1 h2; omega
  · refine Comes.succ1 (fun nf fm0 _ _=>foot_Covers.l1_eq nf fm0 _ _ _ _ _ _ _ _ _ _ _) ?_
    rw [← wrap_succ (by omega)] at next
    have hin:i<List.length (n.2.2.2.1:List (den tPlace)):=by rw [t.wh]; exact hi
    have r1:=treeRoot_spec w t.okw.right hi
    have r2:=treeRoot_spec n t.okn.right hin
    have c1:=contK_spec l hl (rootOf w i).1 (rootOf w i).2.1
    have c2:=contK_spec l hl (rootOf n i).1 (rootOf n i).2.1
    by_cases he:plOf w i=plOf n i
    · have:CovI l w n i↔CovI l w n (i+1):=CovI.step.trans ⟨fun h=>h.2,fun h=>⟨fun _ hn=>absurd he hn,h⟩⟩
      simp [-List.getD_eq_getElem?_getD,-List.length_eq_zero_iff,keepAll,freshHas,pathEq,eqPl_dec,wrap1,wrap0,nbeq,hi,hin,comes_call (r1),(r1).prop,comes_call (r2),(r2).prop,he,this]
      exact next
    · by_cases a1:(rootOf w i:Ky)∈l
      · by_cases a2:(rootOf n i:Ky)∈l
        · have:CovI l w n i↔CovI l w n (i+1):=CovI.step.trans ⟨fun h=>h.2,fun h=>⟨fun _ _=>⟨a1,a2⟩,h⟩⟩
          simp [-List.getD_eq_getElem?_getD,-List.length_eq_zero_iff,keepAll,freshHas,pathEq,eqPl_dec,wrap1,wrap0,nbeq,hi,hin,comes_call (r1),(r1).prop,comes_call (r2),(r2).prop,comes_call (c1),(c1).bprop,comes_call (c2),(c2).bprop,he,this,a1,a2]
          exact next
        · have:¬ CovI l w n i:=fun h=>a2 (h i (Nat.le_refl i) hi he).2
          simp [-List.getD_eq_getElem?_getD,-List.length_eq_zero_iff,keepAll,freshHas,pathEq,eqPl_dec,wrap1,wrap0,nbeq,hi,hin,comes_call (r1),(r1).prop,comes_call (r2),(r2).prop,comes_call (c1),(c1).bprop,comes_call (c2),(c2).bprop,he,this,a1,a2]
      · have:¬ CovI l w n i:=fun h=>a1 (h i (Nat.le_refl i) hi he).1
        simp [-List.getD_eq_getElem?_getD,-List.length_eq_zero_iff,keepAll,freshHas,pathEq,eqPl_dec,wrap1,wrap0,nbeq,hi,hin,comes_call (r1),(r1).prop,comes_call (r2),(r2).prop,comes_call (c1),(c1).bprop,comes_call (c2),(c2).bprop,he,this,a1]
theorem rcov_l1 (l:List Ky) (hl:l.length≤1048576) {w n:den tWorld} (t:Twin w n) (t1:(den tWorld)) (t2:(den tWorld)) (t6:Bool) (t7:Int):∀ i,i≤List.length (w.2.2.2.1:List (den tPlace))→Comes (fun nf fm0 _ _=>innkeepref16_Covers.l1 nf fm0 (l) t1 t2 t6 t7 ((i:Int)) (w) (n)) (fun r=>r.1.1=true↔CovI l w n i):=by
  have hs:=t.okw.sm.wh
  refine upto ?_ (fun i hi next => ?_)
  · refine Comes.succ1 (fun nf fm0 _ _=>innkeepref16_Covers.l1_eq nf fm0 _ _ _ _ _ _ _ _) ?_
    simp [-List.getD_eq_getElem?_getD,-List.length_eq_zero_iff,keepAll,freshHas,pathEq,eqPl_dec,wrap1,wrap0,nbeq]
    intro j h1 h2; omega
  · refine Comes.succ1 (fun nf fm0 _ _=>innkeepref16_Covers.l1_eq nf fm0 _ _ _ _ _ _ _ _) ?_
    rw [← wrap_succ (by omega)] at next
    have hin:i<List.length (n.2.2.2.1:List (den tPlace)):=by rw [t.wh]; exact hi
    have r1:=refRoot_spec w t.okw.right 51 i hi (t.okw.right.ends hi)
    have r2:=refRoot_spec n t.okn.right 51 i hin (t.okn.right.ends hin)
    have c1:=hasK_spec l hl (rootOf w i).1 (rootOf w i).2.1
    have c2:=hasK_spec l hl (rootOf n i).1 (rootOf n i).2.1
    by_cases he:plOf w i=plOf n i
    · have:CovI l w n i↔CovI l w n (i+1):=CovI.step.trans ⟨fun h=>h.2,fun h=>⟨fun _ hn=>absurd he hn,h⟩⟩
      simp [-List.getD_eq_getElem?_getD,-List.length_eq_zero_iff,keepAll,freshHas,pathEq,eqPl_dec,wrap1,wrap0,nbeq,hi,hin,he,this]
      exact next
    · by_cases a1:(rootOf w i:Ky)∈l
      · by_cases a2:(rootOf n i:Ky)∈l
        · have:CovI l w n i↔CovI l w n (i+1):=CovI.step.trans ⟨fun h=>h.2,fun h=>⟨fun _ _=>⟨a1,a2⟩,h⟩⟩
          simp [-List.getD_eq_getElem?_getD,-List.length_eq_zero_iff,keepAll,freshHas,pathEq,eqPl_dec,wrap1,wrap0,nbeq,hi,hin,comes_call (r1),(r1).prop,comes_call (r2),(r2).prop,comes_call (c1),(c1).bprop,comes_call (c2),(c2).bprop,he,this,a1,a2]
          exact next
        · have:¬ CovI l w n i:=fun h=>a2 (h i (Nat.le_refl i) hi he).2
          simp [-List.getD_eq_getElem?_getD,-List.length_eq_zero_iff,keepAll,freshHas,pathEq,eqPl_dec,wrap1,wrap0,nbeq,hi,hin,comes_call (r1),(r1).prop,comes_call (r2),(r2).prop,comes_call (c1),(c1).bprop,comes_call (c2),(c2).bprop,he,this,a1,a2]
      · have:¬ CovI l w n i:=fun h=>a1 (h i (Nat.le_refl i) hi he).1
        simp [-List.getD_eq_getElem?_getD,-List.length_eq_zero_iff,keepAll,freshHas,pathEq,eqPl_dec,wrap1,wrap0,nbeq,hi,hin,comes_call (r1),(r1).prop,comes_call (r2),(r2).prop,comes_call (c1),(c1).bprop,comes_call (c2),(c2).bprop,he,this,a1]
theorem fcov_l0 (l:List Ky) (hl:l.length≤1048576) {w n:den tWorld} (t:Twin w n) (t0:(List (den tPlace))) (t1:(den tWorld)) (t2:(den tWorld)) (t6:Bool):∀ i,i≤List.length (w.2.1:List Int)→Comes (fun nf fm0 _ _=>foot_Covers.l0 nf fm0 t0 t1 t2 t6 ((List.length (w.2.1:List Int):Int)) ((i:Int)) (l) (w) (n)) (fun r=>r.1.1=true↔CovP l w n i∧CovI l w n 0):=by
  have hs:=t.okw.sm.a
  refine upto ?_ (fun i hi next => ?_)
  · refine Comes.succ1 (fun nf fm0 _ _=>foot_Covers.l0_eq nf fm0 _ _ _ _ _ _ _ _ _) ?_
    have h1:=(fcov_l1 l hl t t0 t1 t2 t6 (List.length (w.2.1:List Int):Int) (List.length (w.2.1:List Int):Int) 0 (Nat.zero_le _)).enter
    simp [-List.getD_eq_getElem?_getD,-List.length_eq_zero_iff,keepAll,freshHas,pathEq,eqPl_dec,wrap1,wrap0,nbeq]
    exact h1.mono (fun v hv=>hv.trans ⟨fun h=>⟨fun j h1 h2=>by omega,h⟩,fun h=>h.2⟩)
  · refine Comes.succ1 (fun nf fm0 _ _=>foot_Covers.l0_eq nf fm0 _ _ _ _ _ _ _ _ _) ?_
    rw [← wrap_succ (by omega)] at next
    have hin:i<List.length (n.2.1:List Int):=by rw [t.at_]; exact hi
    have hc1:i<List.length (w.2.2.1:List Int):=by rw [t.co.1]; exact hi
    have hc2:i<List.length (n.2.2.1:List Int):=by rw [t.co.2]; exact hi
    have c1:=contK_spec l hl 1 (i:Int)
    have yes:(¬ (atOf w i=atOf n i∧coinOf w i=coinOf n i)→(((1:Int),(i:Int),()):Ky)∈l)→(CovP l w n i∧CovI l w n 0↔CovP l w n (i+1)∧CovI l w n 0):=fun h0=>and_congr_left' (CovP.step.trans ⟨fun h=>h.2,fun h=>⟨fun _=>h0,h⟩⟩)
    have no:¬ (atOf w i=atOf n i∧coinOf w i=coinOf n i)→¬ (((1:Int),(i:Int),()):Ky)∈l→¬ (CovP l w n i∧CovI l w n 0):=fun h1 h2 h=>h2 (h.1 i (Nat.le_refl i) hi h1)
    by_cases e1:atOf w i=atOf n i
    · by_cases e2:coinOf w i=coinOf n i
      · rw [yes (fun h=>absurd ⟨e1,e2⟩ h)]
        simp [-List.getD_eq_getElem?_getD,-List.length_eq_zero_iff,keepAll,freshHas,pathEq,eqPl_dec,wrap1,wrap0,nbeq,hi,hin,hc1,hc2,e1,e2]
        exact next
      · by_cases a1:(((1:Int),(i:Int),()):Ky)∈l
        · rw [yes (fun _=>a1)]
          simp [-List.getD_eq_getElem?_getD,-List.length_eq_zero_iff,keepAll,freshHas,pathEq,eqPl_dec,wrap1,wrap0,nbeq,hi,hin,hc1,hc2,e1,e2,comes_call (c1),(c1).bprop,a1]
          exact next
        · have:=no (fun h=>e2 h.2) a1
          simp [-List.getD_eq_getElem?_getD,-List.length_eq_zero_iff,keepAll,freshHas,pathEq,eqPl_dec,wrap1,wrap0,nbeq,hi,hin,hc1,hc2,e1,e2,comes_call (c1),(c1).bprop,a1,this]
    · by_cases a1:(((1:Int),(i:Int),()):Ky)∈l
      · rw [yes (fun _=>a1)]
        simp [-List.getD_eq_getElem?_getD,-List.length_eq_zero_iff,keepAll,freshHas,pathEq,eqPl_dec,wrap1,wrap0,nbeq,hi,hin,hc1,hc2,e1,comes_call (c1),(c1).bprop,a1]
        exact next
      · have:=no (fun h=>e1 h.1) a1
        simp [-List.getD_eq_getElem?_getD,-List.length_eq_zero_iff,keepAll,freshHas,pathEq,eqPl_dec,wrap1,wrap0,nbeq,hi,hin,hc1,hc2,e1,comes_call (c1),(c1).bprop,a1,this]
theorem rcov_l0 (l:List Ky) (hl:l.length≤1048576) {w n:den tWorld} (t:Twin w n) (t1:(den tWorld)) (t2:(den tWorld)) (t6:Bool):∀ i,i≤List.length (w.2.1:List Int)→Comes (fun nf fm0 _ _=>innkeepref16_Covers.l0 nf fm0 (l) t1 t2 t6 ((i:Int)) (w) (n)) (fun r=>r.1.1=true↔CovP l w n i∧CovI l w n 0):=by
  have hs:=t.okw.sm.a
  refine upto ?_ (fun i hi next => ?_)
  · refine Comes.succ1 (fun nf fm0 _ _=>innkeepref16_Covers.l0_eq nf fm0 _ _ _ _ _ _ _) ?_
    have h1:=(rcov_l1 l hl t t1 t2 t6 (List.length (w.2.1:List Int):Int) 0 (Nat.zero_le _)).enter
    simp [-List.getD_eq_getElem?_getD,-List.length_eq_zero_iff,keepAll,freshHas,pathEq,eqPl_dec,wrap1,wrap0,nbeq]
    exact h1.mono (fun v hv=>hv.trans ⟨fun h=>⟨fun j h1 h2=>by omega,h⟩,fun h=>h.2⟩)
  · refine Comes.succ1 (fun nf fm0 _ _=>innkeepref16_Covers.l0_eq nf fm0 _ _ _ _ _ _ _) ?_
    rw [← wrap_succ (by omega)] at next
    have hin:i<List.length (n.2.1:List Int):=by rw [t.at_]; exact hi
    have hc1:i<List.length (w.2.2.1:List Int):=by rw [t.co.1]; exact hi
    have hc2:i<List.length (n.2.2.1:List Int):=by rw [t.co.2]; exact hi
    have c1:=hasK_spec l hl 1 (i:Int)
    have yes:(¬ (atOf w i=atOf n i∧coinOf w i=coinOf n i)→(((1:Int),(i:Int),()):Ky)∈l)→(CovP l w n i∧CovI l w n 0↔CovP l w n (i+1)∧CovI l w n 0):=fun h0=>and_congr_left' (CovP.step.trans ⟨fun h=>h.2,fun h=>⟨fun _=>h0,h⟩⟩)
    have no:¬ (atOf w i=atOf n i∧coinOf w i=coinOf n i)→¬ (((1:Int),(i:Int),()):Ky)∈l→¬ (CovP l w n i∧CovI l w n 0):=fun h1 h2 h=>h2 (h.1 i (Nat.le_refl i) hi h1)
    by_cases e1:atOf w i=atOf n i
    · by_cases e2:coinOf w i=coinOf n i
      · rw [yes (fun h=>absurd ⟨e1,e2⟩ h)]
        simp [-List.getD_eq_getElem?_getD,-List.length_eq_zero_iff,keepAll,freshHas,pathEq,eqPl_dec,wrap1,wrap0,nbeq,hi,hin,hc1,hc2,e1,e2]
        exact next
      · by_cases a1:(((1:Int),(i:Int),()):Ky)∈l
        · rw [yes (fun _=>a1)]
          simp [-List.getD_eq_getElem?_getD,-List.length_eq_zero_iff,keepAll,freshHas,pathEq,eqPl_dec,wrap1,wrap0,nbeq,hi,hin,hc1,hc2,e1,e2,comes_call (c1),(c1).bprop,a1]
          exact next
        · have:=no (fun h=>e2 h.2) a1
          simp [-List.getD_eq_getElem?_getD,-List.length_eq_zero_iff,keepAll,freshHas,pathEq,eqPl_dec,wrap1,wrap0,nbeq,hi,hin,hc1,hc2,e1,e2,comes_call (c1),(c1).bprop,a1,this]
    · by_cases a1:(((1:Int),(i:Int),()):Ky)∈l
      · rw [yes (fun _=>a1)]
        simp [-List.getD_eq_getElem?_getD,-List.length_eq_zero_iff,keepAll,freshHas,pathEq,eqPl_dec,wrap1,wrap0,nbeq,hi,hin,hc1,hc2,e1,comes_call (c1),(c1).bprop,a1]
        exact next
      · have:=no (fun h=>e1 h.1) a1
        simp [-List.getD_eq_getElem?_getD,-List.length_eq_zero_iff,keepAll,freshHas,pathEq,eqPl_dec,wrap1,wrap0,nbeq,hi,hin,hc1,hc2,e1,comes_call (c1),(c1).bprop,a1,this]
theorem fcov_spec (l:List Ky) (hl:l.length≤1048576) {w n:den tWorld} (t:Twin w n):Comes (fun nf _ _ _=>foot_Covers nf (l) (w) (n)) (fun r=>r.1.1=true↔CovP l w n 0∧CovI l w n 0):=by
  refine Comes.succ (fun nf _ _ _=>foot_Covers.eq nf _ _ _) ?_
  exact (fcov_l0 l hl t l w n false 0 (Nat.zero_le _)).enter
theorem rcov_spec (l:List Ky) (hl:l.length≤1048576) {w n:den tWorld} (t:Twin w n):Comes (fun nf _ _ _=>innkeepref16_Covers nf (l) (w) (n)) (fun r=>r.1.1=true↔CovP l w n 0∧CovI l w n 0):=by
  refine Comes.succ (fun nf _ _ _=>innkeepref16_Covers.eq nf _ _ _) ?_
  exact (rcov_l0 l hl t w n false 0 (Nat.zero_le _)).enter
theorem refOfF_spec {w:den tWorld} (h:RightP w) {i:Nat} (hi:i<List.length (w.2.1:List Int)) {c:Cm} (hc:MayC c):Comes (fun nf _ _ _=>innkeepref16_Of nf (w) ((i:Int)) (c)) (fun r=>r.1.1=kSort (footL w i c)):=by
  have ha:0≤atOf w i∧atOf w i<(List.length (w.1.1:List (List Int)):Int):=(h.at_ i hi).1
  obtain ⟨d,hd,ed⟩:=hc.dir
  have hd0:0≤cDir c∧cDir c<4:=by omega
  have hex:=h.exit hi hd
  have ed':d=(cDir c).toNat:=by omega
  rw [ed'] at hex
  have hw0:0≤cWho c:=by
    by_cases hk:cKind c=2∨cKind c=7∨cKind c=8
    · exact (hc.who.1 hk).1
    · rw [hc.who.2 hk]; exact Int.le_refl 0
  have e1:List.getD (List.getD (w.1.1:List (List Int)) (Int.toNat (atOf w i)) (dft (.arr 4 (.int .i64))):List Int) (Int.toNat (cDir c)) (0:Int)=wExit w i (cDir c).toNat:=rfl
  have hl:(0:Int)≤(i:Int)∧(i:Int)<(List.length (w.2.1:List Int):Int):=by omega
  have hnow:∀ l:List Ky,l.length≤4→Comes (fun nf _ _ _=>innkeepref14_Sort nf (l)) (fun r=>r=((kSort l,()),[(0,[])])):=fun l hl=>rsort_spec l (Nat.le_trans hl (by decide))
  have d2:=hnow [((0:Int),atOf w i,()),((1:Int),(i:Int),())] (by simp)
  have d3:=hnow [((0:Int),atOf w i,()),((1:Int),(i:Int),()),((0:Int),wExit w i (cDir c).toNat,())] (by simp)
  have d3':=hnow [((0:Int),atOf w i,()),((1:Int),(i:Int),()),((1:Int),cWho c,())] (by simp)
  have d4:=hnow [((0:Int),atOf w i,()),((1:Int),(i:Int),()),((0:Int),wExit w i (cDir c).toNat,()),((1:Int),cWho c,())] (by simp)
  have hk:cKind c=1∨cKind c=2∨cKind c=7∨cKind c=8∨(¬ cKind c=1∧¬ cKind c=2∧¬ cKind c=7∧¬ cKind c=8):=by omega
  unfold footL footA footB footC
  refine Comes.succ (fun nf _ _ _=>innkeepref16_Of.eq nf _ _ _) ?_
  by_cases hx:0≤wExit w i (cDir c).toNat
  · have hx':¬ wExit w i (cDir c).toNat = -1:=by omega
    by_cases hq:cWho c<(List.length (w.2.1:List Int):Int)
    · rcases hk with k | k | k | k | ⟨k1,k2,k3,k4⟩
      · simp [-List.getD_eq_getElem?_getD,-List.length_eq_zero_iff,keepAll,freshHas,pathEq,eqPl_dec,wrap1,wrap0,nbeq,hl,hi,ha,hd0,e1,k,hx,hx',hq,hw0,comes_call (d2),(d2).prop,comes_call (d3),(d3).prop,comes_call (d3'),(d3').prop,comes_call (d4),(d4).prop]
      · simp [-List.getD_eq_getElem?_getD,-List.length_eq_zero_iff,keepAll,freshHas,pathEq,eqPl_dec,wrap1,wrap0,nbeq,hl,hi,ha,hd0,e1,k,hx,hx',hq,hw0,comes_call (d2),(d2).prop,comes_call (d3),(d3).prop,comes_call (d3'),(d3').prop,comes_call (d4),(d4).prop]
      · simp [-List.getD_eq_getElem?_getD,-List.length_eq_zero_iff,keepAll,freshHas,pathEq,eqPl_dec,wrap1,wrap0,nbeq,hl,hi,ha,hd0,e1,k,hx,hx',hq,hw0,comes_call (d2),(d2).prop,comes_call (d3),(d3).prop,comes_call (d3'),(d3').prop,comes_call (d4),(d4).prop]
      · simp [-List.getD_eq_getElem?_getD,-List.length_eq_zero_iff,keepAll,freshHas,pathEq,eqPl_dec,wrap1,wrap0,nbeq,hl,hi,ha,hd0,e1,k,hx,hx',hq,hw0,comes_call (d2),(d2).prop,comes_call (d3),(d3).prop,comes_call (d3'),(d3').prop,comes_call (d4),(d4).prop]
      · simp [-List.getD_eq_getElem?_getD,-List.length_eq_zero_iff,keepAll,freshHas,pathEq,eqPl_dec,wrap1,wrap0,nbeq,hl,hi,ha,hd0,e1,k1,k2,k3,k4,hx,hx',hq,hw0,comes_call (d2),(d2).prop,comes_call (d3),(d3).prop,comes_call (d3'),(d3').prop,comes_call (d4),(d4).prop]
    · rcases hk with k | k | k | k | ⟨k1,k2,k3,k4⟩
      · simp [-List.getD_eq_getElem?_getD,-List.length_eq_zero_iff,keepAll,freshHas,pathEq,eqPl_dec,wrap1,wrap0,nbeq,hl,hi,ha,hd0,e1,k,hx,hx',hq,hw0,comes_call (d2),(d2).prop,comes_call (d3),(d3).prop,comes_call (d3'),(d3').prop,comes_call (d4),(d4).prop]
      · simp [-List.getD_eq_getElem?_getD,-List.length_eq_zero_iff,keepAll,freshHas,pathEq,eqPl_dec,wrap1,wrap0,nbeq,hl,hi,ha,hd0,e1,k,hx,hx',hq,hw0,comes_call (d2),(d2).prop,comes_call (d3),(d3).prop,comes_call (d3'),(d3').prop,comes_call (d4),(d4).prop]
      · simp [-List.getD_eq_getElem?_getD,-List.length_eq_zero_iff,keepAll,freshHas,pathEq,eqPl_dec,wrap1,wrap0,nbeq,hl,hi,ha,hd0,e1,k,hx,hx',hq,hw0,comes_call (d2),(d2).prop,comes_call (d3),(d3).prop,comes_call (d3'),(d3').prop,comes_call (d4),(d4).prop]
      · simp [-List.getD_eq_getElem?_getD,-List.length_eq_zero_iff,keepAll,freshHas,pathEq,eqPl_dec,wrap1,wrap0,nbeq,hl,hi,ha,hd0,e1,k,hx,hx',hq,hw0,comes_call (d2),(d2).prop,comes_call (d3),(d3).prop,comes_call (d3'),(d3').prop,comes_call (d4),(d4).prop]
      · simp [-List.getD_eq_getElem?_getD,-List.length_eq_zero_iff,keepAll,freshHas,pathEq,eqPl_dec,wrap1,wrap0,nbeq,hl,hi,ha,hd0,e1,k1,k2,k3,k4,hx,hx',hq,hw0,comes_call (d2),(d2).prop,comes_call (d3),(d3).prop,comes_call (d3'),(d3').prop,comes_call (d4),(d4).prop]
  · have hx':wExit w i (cDir c).toNat = -1:=by omega
    by_cases hq:cWho c<(List.length (w.2.1:List Int):Int)
    · rcases hk with k | k | k | k | ⟨k1,k2,k3,k4⟩
      · simp [-List.getD_eq_getElem?_getD,-List.length_eq_zero_iff,keepAll,freshHas,pathEq,eqPl_dec,wrap1,wrap0,nbeq,hl,hi,ha,hd0,e1,k,hx,hx',hq,hw0,comes_call (d2),(d2).prop,comes_call (d3),(d3).prop,comes_call (d3'),(d3').prop,comes_call (d4),(d4).prop]
      · simp [-List.getD_eq_getElem?_getD,-List.length_eq_zero_iff,keepAll,freshHas,pathEq,eqPl_dec,wrap1,wrap0,nbeq,hl,hi,ha,hd0,e1,k,hx,hx',hq,hw0,comes_call (d2),(d2).prop,comes_call (d3),(d3).prop,comes_call (d3'),(d3').prop,comes_call (d4),(d4).prop]
      · simp [-List.getD_eq_getElem?_getD,-List.length_eq_zero_iff,keepAll,freshHas,pathEq,eqPl_dec,wrap1,wrap0,nbeq,hl,hi,ha,hd0,e1,k,hx,hx',hq,hw0,comes_call (d2),(d2).prop,comes_call (d3),(d3).prop,comes_call (d3'),(d3').prop,comes_call (d4),(d4).prop]
      · simp [-List.getD_eq_getElem?_getD,-List.length_eq_zero_iff,keepAll,freshHas,pathEq,eqPl_dec,wrap1,wrap0,nbeq,hl,hi,ha,hd0,e1,k,hx,hx',hq,hw0,comes_call (d2),(d2).prop,comes_call (d3),(d3).prop,comes_call (d3'),(d3').prop,comes_call (d4),(d4).prop]
      · simp [-List.getD_eq_getElem?_getD,-List.length_eq_zero_iff,keepAll,freshHas,pathEq,eqPl_dec,wrap1,wrap0,nbeq,hl,hi,ha,hd0,e1,k1,k2,k3,k4,hx,hx',hq,hw0,comes_call (d2),(d2).prop,comes_call (d3),(d3).prop,comes_call (d3'),(d3').prop,comes_call (d4),(d4).prop]
    · rcases hk with k | k | k | k | ⟨k1,k2,k3,k4⟩
      · simp [-List.getD_eq_getElem?_getD,-List.length_eq_zero_iff,keepAll,freshHas,pathEq,eqPl_dec,wrap1,wrap0,nbeq,hl,hi,ha,hd0,e1,k,hx,hx',hq,hw0,comes_call (d2),(d2).prop,comes_call (d3),(d3).prop,comes_call (d3'),(d3').prop,comes_call (d4),(d4).prop]
      · simp [-List.getD_eq_getElem?_getD,-List.length_eq_zero_iff,keepAll,freshHas,pathEq,eqPl_dec,wrap1,wrap0,nbeq,hl,hi,ha,hd0,e1,k,hx,hx',hq,hw0,comes_call (d2),(d2).prop,comes_call (d3),(d3).prop,comes_call (d3'),(d3').prop,comes_call (d4),(d4).prop]
      · simp [-List.getD_eq_getElem?_getD,-List.length_eq_zero_iff,keepAll,freshHas,pathEq,eqPl_dec,wrap1,wrap0,nbeq,hl,hi,ha,hd0,e1,k,hx,hx',hq,hw0,comes_call (d2),(d2).prop,comes_call (d3),(d3).prop,comes_call (d3'),(d3').prop,comes_call (d4),(d4).prop]
      · simp [-List.getD_eq_getElem?_getD,-List.length_eq_zero_iff,keepAll,freshHas,pathEq,eqPl_dec,wrap1,wrap0,nbeq,hl,hi,ha,hd0,e1,k,hx,hx',hq,hw0,comes_call (d2),(d2).prop,comes_call (d3),(d3).prop,comes_call (d3'),(d3').prop,comes_call (d4),(d4).prop]
      · simp [-List.getD_eq_getElem?_getD,-List.length_eq_zero_iff,keepAll,freshHas,pathEq,eqPl_dec,wrap1,wrap0,nbeq,hl,hi,ha,hd0,e1,k1,k2,k3,k4,hx,hx',hq,hw0,comes_call (d2),(d2).prop,comes_call (d3),(d3).prop,comes_call (d3'),(d3').prop,comes_call (d4),(d4).prop]
theorem footTells_true (w:den tWorld) (p:Int) (c:Cm) (l:List Ky) (hw:wfD tWorld w) (hp:wfD (.int .u8) p) (_:wfD tCmd c) (_:wfD (.sl tPlace) l):Comes (fun nf _ _ _=>innkeeplaw16_FootTells nf (w) (p) (c) (l)) (fun r=>r.1.1=true):=by
  refine Comes.succ (fun nf _ _ _=>innkeeplaw16_FootTells.eq nf _ _ _ _) ?_
  simp [-List.getD_eq_getElem?_getD,-List.length_eq_zero_iff,keepAll,freshHas,pathEq,eqPl_dec,wrap1,wrap0,nbeq,comes_call (awake16),(awake16).prop,comes_call ((fits16 w).fit),((fits16 w).fit).bprop,comes_call (fewC_spec c),(fewC_spec c).bprop]
  intro fit few
  simp [-List.getD_eq_getElem?_getD,-List.length_eq_zero_iff,keepAll,freshHas,pathEq,eqPl_dec,wrap1,wrap0,nbeq,comes_call (awake16),(awake16).prop,comes_call (mayC_spec c (by have:=few.1; omega) (by have:=few.2; omega)),(mayC_spec c (by have:=few.1; omega) (by have:=few.2; omega)).bprop]
  intro may
  intro hl
  have hl':l.length≤1048576:=by omega
  have ok:=ok_of hw fit.few fit.right
  have hpos:=ok.right.pos
  obtain ⟨i,hi,ei⟩:=index_of hp hpos
  rw [ei]
  have hkl:(kSort (footL w i c)).length≤1048576:=Nat.le_trans (kSort_length _) (footL_len w i c)
  have dk:=doR_ok ok hi c
  have tw:Twin w (doR w i c).1:=⟨ok,dk.1,dk.2⟩
  simp [-List.getD_eq_getElem?_getD,-List.length_eq_zero_iff,keepAll,freshHas,pathEq,eqPl_dec,wrap1,wrap0,nbeq,comes_call (refDo_spec ok hi few),(refDo_spec ok hi few).prop,comes_call (ofF_spec ok.right hi may),(ofF_spec ok.right hi may).prop,comes_call (refOfF_spec ok.right hi may),(refOfF_spec ok.right hi may).prop,comes_call (rsame_spec (kSort (footL w i c)) (kSort (footL w i c)) hkl),(rsame_spec (kSort (footL w i c)) (kSort (footL w i c)) hkl).prop,comes_call (fcov_spec l hl' tw),(fcov_spec l hl' tw).bprop,comes_call (rcov_spec l hl' tw),(rcov_spec l hl' tw).bprop]
  omega
end Go.Proofs.Ytmemggdjnfccfaa.Ghost
