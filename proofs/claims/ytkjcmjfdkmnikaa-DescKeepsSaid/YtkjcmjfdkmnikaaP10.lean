/- What functions come to, and that the statements are answered with 'true'. Conditions: none. -/
import Derived.Test.YtkjcmjfdkmnikaaS
import Derived.Test.YtkjcmjfdkmnikaaGE
import Derived.Test.YtkjcmjfdkmnikaaP1
import Derived.Test.YtkjcmjfdkmnikaaP2
import Derived.Test.YtkjcmjfdkmnikaaP3
import Derived.Test.YtkjcmjfdkmnikaaP4
import Derived.Test.YtkjcmjfdkmnikaaP5
import Derived.Test.YtkjcmjfdkmnikaaP6
import Derived.Test.YtkjcmjfdkmnikaaP7
import Derived.Test.YtkjcmjfdkmnikaaP8
import Derived.Test.YtkjcmjfdkmnikaaP9
set_option linter.unusedVariables false
set_option linter.unusedSimpArgs false
set_option linter.unusedSectionVars false
set_option linter.unnecessarySimpa false
namespace Go.Proofs.Ytkjcmjfdkmnikaa.Ghost
open Go
theorem keeps_l1 (w : den tWorld) (sw : Sm w) (m : MayP w.1) (A B : Nat) (hA : A ≤ 1048576) (t0 : (den tWorld)) (t2 : Bool) (t6 : Int) (t7 : Int) (o2 : (den tWorld)) (o3 : (den tWorld)) (o4 : (List (den tPlace))) (o5 : (List (den tPlace))) : ∀ i, i ≤ A → ∀ l6 l7 l8 l9 : List Int, l6.length = A → l7.length = A → l8.length = B → l9.length = B → Comes (fun nf fm0 _ _ => innkeeplaw06_DescKeeps.l1 nf fm0 t0 t2 t6 t7 ((i : Int)) (w) (w) o2 o3 o4 o5 (l6) (l7) (l8) (l9)) (fun r => r.1.1 = true) := by
  refine upto (fun l6 l7 l8 l9 h6 h7 h8 h9 => ?_) (fun i hi next l6 l7 l8 l9 h6 h7 h8 h9 => ?_)
  · refine Comes.succ1 (fun nf fm0 _ _ => innkeeplaw06_DescKeeps.l1_eq nf fm0 _ _ _ _ _ _ _ _ _ _ _ _ _ _ _) ?_
    simp [-List.getD_eq_getElem?_getD, -List.length_eq_zero_iff, keepAll, freshHas, pathEq, eqPl_dec, wrap1, wrap0, nbeq, h6, h8, comes_call (same_spec w w sw sw), (same_spec w w sw sw).bprop, comes_call (may_spec w.1), (may_spec w.1).bprop, m]
  · by_cases hb : i < B
    · have next := next (List.set l6 i 77) (List.set l7 i 77) (List.set l8 i 77) (List.set l9 i 77) (by rw [List.length_set]; exact h6) (by rw [List.length_set]; exact h7) (by rw [List.length_set]; exact h8) (by rw [List.length_set]; exact h9)
      rw [← wrap_succ (by omega)] at next
      refine Comes.succ1 (fun nf fm0 _ _ => innkeeplaw06_DescKeeps.l1_eq nf fm0 _ _ _ _ _ _ _ _ _ _ _ _ _ _ _) ?_
      simp [-List.getD_eq_getElem?_getD, -List.length_eq_zero_iff, keepAll, freshHas, pathEq, eqPl_dec, wrap1, wrap0, nbeq, h6, h7, h8, h9, hi, hb]
      exact next
    · refine Comes.succ1 (fun nf fm0 _ _ => innkeeplaw06_DescKeeps.l1_eq nf fm0 _ _ _ _ _ _ _ _ _ _ _ _ _ _ _) ?_
      simp [-List.getD_eq_getElem?_getD, -List.length_eq_zero_iff, keepAll, freshHas, pathEq, eqPl_dec, wrap1, wrap0, nbeq, h6, h7, h8, h9, hi, hb, comes_call (same_spec w w sw sw), (same_spec w w sw sw).bprop, comes_call (may_spec w.1), (may_spec w.1).bprop, m]
theorem keeps_l0 (w : den tWorld) (sw : Sm w) (m : MayP w.1) (A B C D : Nat) (hA : A ≤ 1048576) (hC : C ≤ 1048576) (t0 : (den tWorld)) (t2 : Bool) (t6 : Int) (o2 : (den tWorld)) (o3 : (den tWorld)) (l6 l7 l8 l9 : List Int) (h6 : l6.length = A) (h7 : l7.length = A) (h8 : l8.length = B) (h9 : l9.length = B) : ∀ i, i ≤ C → ∀ l4 l5 : List Pl, l4.length = C → l5.length = D → Comes (fun nf fm0 _ _ => innkeeplaw06_DescKeeps.l0 nf fm0 t0 t2 t6 ((i : Int)) (w) (w) o2 o3 (l4) (l5) (l6) (l7) (l8) (l9)) (fun r => r.1.1 = true) := by
  have l1 := fun (t0 t2 t6 t7 o2 o3 o4 o5) => (keeps_l1 w sw m A B hA t0 t2 t6 t7 o2 o3 o4 o5 0 (Nat.zero_le _) l6 l7 l8 l9 h6 h7 h8 h9).enter
  refine upto (fun l4 l5 h4 h5 => ?_) (fun i hi next l4 l5 h4 h5 => ?_)
  · refine Comes.succ1 (fun nf fm0 _ _ => innkeeplaw06_DescKeeps.l0_eq nf fm0 _ _ _ _ _ _ _ _ _ _ _ _ _ _) ?_
    simp [-List.getD_eq_getElem?_getD, -List.length_eq_zero_iff, keepAll, freshHas, pathEq, eqPl_dec, wrap1, wrap0, nbeq, h4, h5]
    exact l1 _ _ _ _ _ _ _ _
  · by_cases hb : i < D
    · have next := next (List.set l4 i ((List.getD l4 i (dft tPlace)).1, 77, ())) (List.set l5 i ((List.getD l5 i (dft tPlace)).1, 77, ())) (by rw [List.length_set]; exact h4) (by rw [List.length_set]; exact h5)
      rw [← wrap_succ (by omega)] at next
      refine Comes.succ1 (fun nf fm0 _ _ => innkeeplaw06_DescKeeps.l0_eq nf fm0 _ _ _ _ _ _ _ _ _ _ _ _ _ _) ?_
      simp [-List.getD_eq_getElem?_getD, -List.length_eq_zero_iff, keepAll, freshHas, pathEq, eqPl_dec, wrap1, wrap0, nbeq, h4, h5, hi, hb]
      exact next
    · refine Comes.succ1 (fun nf fm0 _ _ => innkeeplaw06_DescKeeps.l0_eq nf fm0 _ _ _ _ _ _ _ _ _ _ _ _ _ _) ?_
      simp [-List.getD_eq_getElem?_getD, -List.length_eq_zero_iff, keepAll, freshHas, pathEq, eqPl_dec, wrap1, wrap0, nbeq, h4, h5, hi, hb]
      exact l1 _ _ _ _ _ _ _ _
theorem descKeeps_true (w : den tWorld) (hw : wfD tWorld w) : Comes (fun nf _ _ _ => innkeeplaw06_DescKeeps nf (w)) (fun r => r.1.1 = true) := by
  by_cases f : FewP w
  rotate_left
  · refine Comes.succ (fun nf _ _ _ => innkeeplaw06_DescKeeps.eq nf _) ?_
    simp only [comes_call (awake06), (awake06).prop, comes_call (fewL w), (fewL w).bprop, dec_false.2 f, Bool.not_true, Bool.not_false, cond_true, cond_false, comes_ret]
  by_cases rt : RightP w
  rotate_left
  · refine Comes.succ (fun nf _ _ _ => innkeeplaw06_DescKeeps.eq nf _) ?_
    simp only [comes_call (awake06), (awake06).prop, comes_call (fewL w), (fewL w).bprop, comes_call (right_spec w), (right_spec w).bprop, dec_true.2 f, dec_false.2 rt, Bool.not_true, Bool.not_false, cond_true, cond_false, comes_ret]
  have sw := sm_of hw f
  have m := rt.may
  have hl1 : List.length (w.2.2.1 : List Int) = List.length (w.2.1 : List Int) := by rw [rt.c1, rt.a1]
  have l0 := fun (t0 t2 t6 o2 o3) => (keeps_l0 w sw m _ _ _ _ sw.a sw.wh t0 t2 t6 o2 o3 w.2.1 w.2.2.1 w.1.2.1 w.1.2.2.1 rfl hl1 rfl m.c1 0 (Nat.zero_le _) w.2.2.2.1 (newPl w.1.2.2.2.1 (List.length (w.1.2.2.2.1 : List Int))) rfl rfl).enter
  refine Comes.succ (fun nf _ _ _ => innkeeplaw06_DescKeeps.eq nf _) ?_
  simp only [comes_call (awake06), (awake06).prop, comes_call (fewL w), (fewL w).bprop, comes_call (right_spec w), (right_spec w).bprop, dec_true.2 f, dec_true.2 rt, Bool.not_true, Bool.not_false, cond_true, cond_false, comes_ret, comes_call (copied_spec w sw), (copied_spec w sw).prop]
  simp [-List.getD_eq_getElem?_getD, -List.length_eq_zero_iff, keepAll, freshHas, pathEq, eqPl_dec, wrap1, wrap0, nbeq, comes_call (copied_spec w sw), (copied_spec w sw).prop, comes_call (copy_spec w sw), (copy_spec w sw).prop, comes_call (dnew_spec w.1 sw.d m), (dnew_spec w.1 sw.d m).prop, comes_call (dright_spec w sw), (dright_spec w sw).prop, newW]
  exact l0 _ _ _ _ _
end Go.Proofs.Ytkjcmjfdkmnikaa.Ghost
