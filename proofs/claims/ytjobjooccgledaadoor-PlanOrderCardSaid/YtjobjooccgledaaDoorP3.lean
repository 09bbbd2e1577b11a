/- What functions come to, and that the statements are answered with 'true'. Conditions: none. -/
import Derived.Test.YtjobjooccgledaaDoorS
import Derived.Test.YtjobjooccgledaaDoorGE
import Derived.Test.YtjobjooccgledaaDoorP1
import Derived.Test.YtjobjooccgledaaDoorP2
set_option linter.unusedVariables false
set_option linter.unusedSimpArgs false
set_option linter.unusedSectionVars false
set_option linter.unnecessarySimpa false
namespace Go.Proofs.YtjobjooccgledaaDoor.Ghost
open Go
abbrev Wr:=den tWrite
def difI (k:Int) (a b:List Int):Nat→List Wr
  | 0=>[]
  | n+1=>difI k a b n ++ (if a.getD n 0=b.getD n 0 then [] else [(k,(n:Int),b.getD n 0,(0,0,()),())])
def difP (a b:List Pl):Nat→List Wr
  | 0=>[]
  | n+1=>difP a b n ++ (if a.getD n (dft tPlace)=b.getD n (dft tPlace) then [] else [(2,(n:Int),0,b.getD n (dft tPlace),())])
theorem difI_len (k:Int) (a b:List Int):(n:Nat)→(difI k a b n).length≤n
  | 0=>Nat.le_refl 0
  | n+1=>by
    have:=difI_len k a b n
    simp only [difI,List.length_append]
    split <;> simp <;> omega
theorem difP_len (a b:List Pl):(n:Nat)→(difP a b n).length≤n
  | 0=>Nat.le_refl 0
  | n+1=>by
    have:=difP_len a b n
    simp only [difP,List.length_append]
    split <;> simp <;> omega
def fromW (w v:den tWorld):List Wr:=(difI 0 w.2.1 v.2.1 (List.length (v.2.1:List Int)) ++ difI 1 w.2.2.1 v.2.2.1 (List.length (v.2.2.1:List Int))) ++ difP w.2.2.2.1 v.2.2.2.1 (List.length (v.2.2.2.1:List Pl))
structure Par (w v:den tWorld):Prop where
  la:List.length (w.2.1:List Int)=List.length (v.2.1:List Int)
  lc:List.length (w.2.2.1:List Int)=List.length (v.2.2.1:List Int)
  lh:List.length (w.2.2.2.1:List Pl)=List.length (v.2.2.2.1:List Pl)
  few:List.length (v.2.1:List Int)≤1000∧List.length (v.2.2.1:List Int)≤1000∧List.length (v.2.2.2.1:List Pl)≤1000
theorem fromW_len {w v:den tWorld} (h:Par w v):(fromW w v).length≤3000:=by
  obtain ⟨f1,f2,f3⟩:=h.few
  have h1:=difI_len 0 w.2.1 v.2.1 (List.length (v.2.1:List Int))
  have h2:=difI_len 1 w.2.2.1 v.2.2.1 (List.length (v.2.2.1:List Int))
  have h3:=difP_len w.2.2.2.1 v.2.2.2.1 (List.length (v.2.2.2.1:List Pl))
  simp only [fromW,List.length_append]
  omega
section
variable {w v:den tWorld} (h:Par w v)
include h
theorem from_l2 (pre:List Wr) (hp:pre.length≤2000) (t0:(den tWorld)) (t1:(den tWorld)) (t4:(List (den tWrite))) (t13:(List Int)) (t14:Int) (t15:Int) (t35:(List Int)) (t36:Int) (t37:Int):∀ i,i≤List.length (v.2.2.2.1:List Pl) →
    Comes (fun nf fm0 _ _=>plan_From.l2 nf fm0 t0 t1 t4 t13 t14 t15 t35 t36 t37 (v.2.2.2.1) (((List.length (v.2.2.2.1:List Pl):Nat):Int)) ((i:Int)) (w) (v) (pre ++ difP w.2.2.2.1 v.2.2.2.1 i)) (fun r=>r=((pre ++ difP w.2.2.2.1 v.2.2.2.1 (List.length (v.2.2.2.1:List Pl)),()),[(0,[])])):=by
  obtain ⟨f1,f2,f3⟩:=h.few
  have lh:=h.lh
  refine upto ?_ (fun i hi next => ?_)
  · refine Comes.succ1 (fun nf fm0 _ _=>plan_From.l2_eq nf fm0 _ _ _ _ _ _ _ _ _ _ _ _ _ _ _) ?_
    simp [-List.getD_eq_getElem?_getD,-List.length_eq_zero_iff,keepAll,freshHas,pathEq,eqPl_dec,wrap1,wrap0,nbeq]
  · have hl:=difP_len w.2.2.2.1 v.2.2.2.1 i
    refine Comes.succ1 (fun nf fm0 _ _=>plan_From.l2_eq nf fm0 _ _ _ _ _ _ _ _ _ _ _ _ _ _ _) ?_
    rw [← wrap_succ (by omega)] at next
    by_cases e:List.getD (w.2.2.2.1:List Pl) i (dft tPlace)=List.getD (v.2.2.2.1:List Pl) i (dft tPlace)
    · rw [difP,if_pos e,List.append_nil] at next
      simp [-List.getD_eq_getElem?_getD,-List.length_eq_zero_iff,keepAll,freshHas,pathEq,eqPl_dec,wrap1,wrap0,nbeq,hi,lh,e]
      exact next
    · rw [difP,if_neg e,← List.append_assoc] at next
      simp [-List.getD_eq_getElem?_getD,-List.length_eq_zero_iff,keepAll,freshHas,pathEq,eqPl_dec,wrap1,wrap0,nbeq,hi,lh,e]
      exact ⟨by omega,by simpa using next⟩
theorem from_l1 (pre:List Wr) (hp:pre.length≤1000) (t0:(den tWorld)) (t1:(den tWorld)) (t4:(List (den tWrite))) (t13:(List Int)) (t14:Int) (t15:Int):∀ i,i≤List.length (v.2.2.1:List Int) →
    Comes (fun nf fm0 _ _=>plan_From.l1 nf fm0 t0 t1 t4 t13 t14 t15 (v.2.2.1) (((List.length (v.2.2.1:List Int):Nat):Int)) ((i:Int)) (w) (v) (pre ++ difI 1 w.2.2.1 v.2.2.1 i)) (fun r=>r=(((pre ++ difI 1 w.2.2.1 v.2.2.1 (List.length (v.2.2.1:List Int))) ++ difP w.2.2.2.1 v.2.2.2.1 (List.length (v.2.2.2.1:List Pl)),()),[(0,[])])):=by
  obtain ⟨f1,f2,f3⟩:=h.few
  have lc:=h.lc
  refine upto ?_ (fun i hi next => ?_)
  · have hl:=difI_len 1 w.2.2.1 v.2.2.1 (List.length (v.2.2.1:List Int))
    have l2:=(from_l2 h (pre ++ difI 1 w.2.2.1 v.2.2.1 (List.length (v.2.2.1:List Int))) (by simp; omega) (t0) (t1) (t4) (t13) (t14) (t15) (v.2.2.1) (((List.length (v.2.2.1:List Int):Nat):Int)) (((List.length (v.2.2.1:List Int):Nat):Int)) 0 (Nat.zero_le _)).enter
    rw [difP,List.append_nil] at l2
    refine Comes.succ1 (fun nf fm0 _ _=>plan_From.l1_eq nf fm0 _ _ _ _ _ _ _ _ _ _ _ _) ?_
    simp [-List.getD_eq_getElem?_getD,-List.length_eq_zero_iff,keepAll,freshHas,pathEq,eqPl_dec,wrap1,wrap0,nbeq]
    simpa using l2
  · have hl:=difI_len 1 w.2.2.1 v.2.2.1 i
    refine Comes.succ1 (fun nf fm0 _ _=>plan_From.l1_eq nf fm0 _ _ _ _ _ _ _ _ _ _ _ _) ?_
    rw [← wrap_succ (by omega)] at next
    by_cases e:List.getD (w.2.2.1:List Int) i 0=List.getD (v.2.2.1:List Int) i 0
    · rw [difI,if_pos e,List.append_nil] at next
      simp [-List.getD_eq_getElem?_getD,-List.length_eq_zero_iff,keepAll,freshHas,pathEq,eqPl_dec,wrap1,wrap0,nbeq,hi,lc,e]
      simpa using next
    · rw [difI,if_neg e,← List.append_assoc] at next
      simp [-List.getD_eq_getElem?_getD,-List.length_eq_zero_iff,keepAll,freshHas,pathEq,eqPl_dec,wrap1,wrap0,nbeq,hi,lc,e]
      exact ⟨by omega,by simpa using next⟩
theorem from_l0 (t0:(den tWorld)) (t1:(den tWorld)) (t4:(List (den tWrite))):∀ i,i≤List.length (v.2.1:List Int) →
    Comes (fun nf fm0 _ _=>plan_From.l0 nf fm0 t0 t1 t4 (v.2.1) (((List.length (v.2.1:List Int):Nat):Int)) ((i:Int)) (w) (v) (difI 0 w.2.1 v.2.1 i)) (fun r=>r=((fromW w v,()),[(0,[])])):=by
  obtain ⟨f1,f2,f3⟩:=h.few
  have la:=h.la
  refine upto ?_ (fun i hi next => ?_)
  · have hl:=difI_len 0 w.2.1 v.2.1 (List.length (v.2.1:List Int))
    have l1:=(from_l1 h (difI 0 w.2.1 v.2.1 (List.length (v.2.1:List Int))) (by omega) (t0) (t1) (t4) (v.2.1) (((List.length (v.2.1:List Int):Nat):Int)) (((List.length (v.2.1:List Int):Nat):Int)) 0 (Nat.zero_le _)).enter
    rw [difI,List.append_nil] at l1
    refine Comes.succ1 (fun nf fm0 _ _=>plan_From.l0_eq nf fm0 _ _ _ _ _ _ _ _ _) ?_
    simp [-List.getD_eq_getElem?_getD,-List.length_eq_zero_iff,keepAll,freshHas,pathEq,eqPl_dec,wrap1,wrap0,nbeq]
    simpa [fromW] using l1
  · have hl:=difI_len 0 w.2.1 v.2.1 i
    refine Comes.succ1 (fun nf fm0 _ _=>plan_From.l0_eq nf fm0 _ _ _ _ _ _ _ _ _) ?_
    rw [← wrap_succ (by omega)] at next
    by_cases e:List.getD (w.2.1:List Int) i 0=List.getD (v.2.1:List Int) i 0
    · rw [difI,if_pos e,List.append_nil] at next
      simp [-List.getD_eq_getElem?_getD,-List.length_eq_zero_iff,keepAll,freshHas,pathEq,eqPl_dec,wrap1,wrap0,nbeq,hi,la,e]
      exact next
    · rw [difI,if_neg e] at next
      simp [-List.getD_eq_getElem?_getD,-List.length_eq_zero_iff,keepAll,freshHas,pathEq,eqPl_dec,wrap1,wrap0,nbeq,hi,la,e]
      exact ⟨by omega,next⟩
theorem from_spec:Comes (fun nf _ _ _=>plan_From nf (w) (v)) (fun r=>r=((fromW w v,()),[(0,[])])):=by
  refine Comes.succ (fun nf _ _ _=>plan_From.eq nf _ _) ?_
  exact (from_l0 h w v ([]:List Wr) 0 (Nat.zero_le _)).enter
theorem rfrom_l2 (pre:List Wr) (hp:pre.length≤2000) (t0:(den tWorld)) (t1:(den tWorld)) (t4:(List (den tWrite))) (t6:Int) (t7:Int):∀ i,i≤List.length (v.2.2.2.1:List Pl) →
    Comes (fun nf fm0 _ _=>innkeepref18_From.l2 nf fm0 t0 t1 t4 t6 t7 ((i:Int)) (w) (v) (pre ++ difP w.2.2.2.1 v.2.2.2.1 i)) (fun r=>r=((pre ++ difP w.2.2.2.1 v.2.2.2.1 (List.length (v.2.2.2.1:List Pl)),()),[(0,[])])):=by
  obtain ⟨f1,f2,f3⟩:=h.few
  have lh:=h.lh
  refine upto ?_ (fun i hi next => ?_)
  · refine Comes.succ1 (fun nf fm0 _ _=>innkeepref18_From.l2_eq nf fm0 _ _ _ _ _ _ _ _ _) ?_
    simp [-List.getD_eq_getElem?_getD,-List.length_eq_zero_iff,keepAll,freshHas,pathEq,eqPl_dec,wrap1,wrap0,nbeq,lh]
  · have hl:=difP_len w.2.2.2.1 v.2.2.2.1 i
    refine Comes.succ1 (fun nf fm0 _ _=>innkeepref18_From.l2_eq nf fm0 _ _ _ _ _ _ _ _ _) ?_
    rw [← wrap_succ (by omega)] at next
    by_cases e:List.getD (w.2.2.2.1:List Pl) i (dft tPlace)=List.getD (v.2.2.2.1:List Pl) i (dft tPlace)
    · rw [difP,if_pos e,List.append_nil] at next
      simp [-List.getD_eq_getElem?_getD,-List.length_eq_zero_iff,keepAll,freshHas,pathEq,eqPl_dec,wrap1,wrap0,nbeq,hi,lh,e]
      exact next
    · rw [difP,if_neg e,← List.append_assoc] at next
      simp [-List.getD_eq_getElem?_getD,-List.length_eq_zero_iff,keepAll,freshHas,pathEq,eqPl_dec,wrap1,wrap0,nbeq,hi,lh,e]
      exact ⟨by omega,by simpa using next⟩
theorem rfrom_l1 (pre:List Wr) (hp:pre.length≤1000) (t0:(den tWorld)) (t1:(den tWorld)) (t4:(List (den tWrite))) (t6:Int):∀ i,i≤List.length (v.2.2.1:List Int) →
    Comes (fun nf fm0 _ _=>innkeepref18_From.l1 nf fm0 t0 t1 t4 t6 ((i:Int)) (w) (v) (pre ++ difI 1 w.2.2.1 v.2.2.1 i)) (fun r=>r=(((pre ++ difI 1 w.2.2.1 v.2.2.1 (List.length (v.2.2.1:List Int))) ++ difP w.2.2.2.1 v.2.2.2.1 (List.length (v.2.2.2.1:List Pl)),()),[(0,[])])):=by
  obtain ⟨f1,f2,f3⟩:=h.few
  have lc:=h.lc
  refine upto ?_ (fun i hi next => ?_)
  · have hl:=difI_len 1 w.2.2.1 v.2.2.1 (List.length (v.2.2.1:List Int))
    have l2:=(rfrom_l2 h (pre ++ difI 1 w.2.2.1 v.2.2.1 (List.length (v.2.2.1:List Int))) (by simp; omega) (t0) (t1) (t4) (t6) (((List.length (v.2.2.1:List Int):Nat):Int)) 0 (Nat.zero_le _)).enter
    rw [difP,List.append_nil] at l2
    refine Comes.succ1 (fun nf fm0 _ _=>innkeepref18_From.l1_eq nf fm0 _ _ _ _ _ _ _ _) ?_
    simp [-List.getD_eq_getElem?_getD,-List.length_eq_zero_iff,keepAll,freshHas,pathEq,eqPl_dec,wrap1,wrap0,nbeq,lc]
    simpa using l2
  · have hl:=difI_len 1 w.2.2.1 v.2.2.1 i
    refine Comes.succ1 (fun nf fm0 _ _=>innkeepref18_From.l1_eq nf fm0 _ _ _ _ _ _ _ _) ?_
    rw [← wrap_succ (by omega)] at next
    by_cases e:List.getD (w.2.2.1:List Int) i 0=List.getD (v.2.2.1:List Int) i 0
    · rw [difI,if_pos e,List.append_nil] at next
      simp [-List.getD_eq_getElem?_getD,-List.length_eq_zero_iff,keepAll,freshHas,pathEq,eqPl_dec,wrap1,wrap0,nbeq,hi,lc,e]
      simpa using next
    · rw [difI,if_neg e,← List.append_assoc] at next
      simp [-List.getD_eq_getElem?_getD,-List.length_eq_zero_iff,keepAll,freshHas,pathEq,eqPl_dec,wrap1,wrap0,nbeq,hi,lc,e]
      exact ⟨by omega,by simpa using next⟩
theorem rfrom_l0 (t0:(den tWorld)) (t1:(den tWorld)) (t4:(List (den tWrite))):∀ i,i≤List.length (v.2.1:List Int) →
    Comes (fun nf fm0 _ _=>innkeepref18_From.l0 nf fm0 t0 t1 t4 ((i:Int)) (w) (v) (difI 0 w.2.1 v.2.1 i)) (fun r=>r=((fromW w v,()),[(0,[])])):=by
  obtain ⟨f1,f2,f3⟩:=h.few
  have la:=h.la
  refine upto ?_ (fun i hi next => ?_)
  · have hl:=difI_len 0 w.2.1 v.2.1 (List.length (v.2.1:List Int))
    have l1:=(rfrom_l1 h (difI 0 w.2.1 v.2.1 (List.length (v.2.1:List Int))) (by omega) (t0) (t1) (t4) (((List.length (v.2.1:List Int):Nat):Int)) 0 (Nat.zero_le _)).enter
    rw [difI,List.append_nil] at l1
    refine Comes.succ1 (fun nf fm0 _ _=>innkeepref18_From.l0_eq nf fm0 _ _ _ _ _ _ _) ?_
    simp [-List.getD_eq_getElem?_getD,-List.length_eq_zero_iff,keepAll,freshHas,pathEq,eqPl_dec,wrap1,wrap0,nbeq,la]
    simpa [fromW] using l1
  · have hl:=difI_len 0 w.2.1 v.2.1 i
    refine Comes.succ1 (fun nf fm0 _ _=>innkeepref18_From.l0_eq nf fm0 _ _ _ _ _ _ _) ?_
    rw [← wrap_succ (by omega)] at next
    by_cases e:List.getD (w.2.1:List Int) i 0=List.getD (v.2.1:List Int) i 0
    · rw [difI,if_pos e,List.append_nil] at next
      simp [-List.getD_eq_getElem?_getD,-List.length_eq_zero_iff,keepAll,freshHas,pathEq,eqPl_dec,wrap1,wrap0,nbeq,hi,la,e]
      exact next
    · rw [difI,if_neg e] at next
      simp [-List.getD_eq_getElem?_getD,-List.length_eq_zero_iff,keepAll,freshHas,pathEq,eqPl_dec,wrap1,wrap0,nbeq,hi,la,e]
      exact ⟨by omega,next⟩
theorem rfrom_spec:Comes (fun nf _ _ _=>innkeepref18_From nf (w) (v)) (fun r=>r=((fromW w v,()),[(0,[])])):=by
  refine Comes.succ (fun nf _ _ _=>innkeepref18_From.eq nf _ _) ?_
  exact (rfrom_l0 h w v ([]:List Wr) 0 (Nat.zero_le _)).enter
end
end Go.Proofs.YtjobjooccgledaaDoor.Ghost
