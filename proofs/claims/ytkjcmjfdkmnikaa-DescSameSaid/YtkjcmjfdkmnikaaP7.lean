/- What functions come to, and that the statements are answered with 'true'. Conditions: none. -/
import Derived.Test.YtkjcmjfdkmnikaaS
import Derived.Test.YtkjcmjfdkmnikaaGE
import Derived.Test.YtkjcmjfdkmnikaaP1
import Derived.Test.YtkjcmjfdkmnikaaP2
import Derived.Test.YtkjcmjfdkmnikaaP3
import Derived.Test.YtkjcmjfdkmnikaaP4
import Derived.Test.YtkjcmjfdkmnikaaP5
import Derived.Test.YtkjcmjfdkmnikaaP6
set_option linter.unusedVariables false
set_option linter.unusedSimpArgs false
set_option linter.unusedSectionVars false
set_option linter.unnecessarySimpa false
namespace Go.Proofs.Ytkjcmjfdkmnikaa.Ghost
open Go
theorem awake06 : Comes (fun nf _ _ _ => innkeeplaw06_awake nf) (fun r => r.1.1 = true) := Comes.one 60 (r := ((true, ()), [])) (by kernel_rfl) rfl
theorem sm_of {w : den tWorld} (hw : wfD tWorld w) (hf : FewP w) : Sm w := by
  obtain ⟨f1, f2, f3, f4, f5, f6, f7, f8⟩ := hf
  refine ⟨by omega, by omega, by omega, by omega, by omega, by omega, by omega, by omega, fun i hi => ?_⟩
  have h1 : ∀ y : List Int, y ∈ (w.1.1 : List (List Int)) → wfD (.arr 4 (.int .i64)) y := hw.1.1.2
  exact (h1 _ (getD_mem' _ hi)).1
theorem smD_of {d : den tDesc} (hw : wfD tDesc d) (hf : FewP (d, ([] : List Int), ([] : List Int), ([] : List Pl), ())) : SmD d := by
  obtain ⟨f1, f2, f3, f4, f5, _⟩ := hf
  refine ⟨Nat.le_trans f1 (by decide), Nat.le_trans f5 (by decide), Nat.le_trans f2 (by decide), Nat.le_trans f3 (by decide), Nat.le_trans f4 (by decide), fun i hi => ?_⟩
  have h1 : ∀ y : List Int, y ∈ (d.1 : List (List Int)) → wfD (.arr 4 (.int .i64)) y := hw.1.2
  exact (h1 _ (getD_mem' _ hi)).1
theorem fewL (w : den tWorld) : Comes (fun nf _ _ _ => innkeepref06_Few nf (w)) (fun r => r.1.1 = true ↔ FewP w) := few_spec w
theorem newW_sm {d : den tDesc} (hs : SmD d) : Sm (newW d) := ⟨hs.e, hs.b, hs.p, hs.c, hs.i, hs.p, hs.c, by show (newPl _ _).length ≤ _; rw [newPl_len]; exact hs.i, hs.rows⟩
theorem zeroW_sm : Sm zeroW := ⟨by decide, by decide, by decide, by decide, by decide, by decide, by decide, by decide, fun i hi => by cases hi⟩
theorem descMakes_true (d : den tDesc) (w v : den tWorld) (hd : wfD tDesc d) (hw : wfD tWorld w) (hv : wfD tWorld v) : Comes (fun nf _ _ _ => innkeeplaw06_DescMakes nf (d) (w) (v)) (fun r => r.1.1 = true) := by
  by_cases f1 : FewP (d, ([] : List Int), ([] : List Int), ([] : List Pl), ())
  rotate_left
  · refine Comes.succ (fun nf _ _ _ => innkeeplaw06_DescMakes.eq nf _ _ _) ?_
    simp only [comes_call (awake06), (awake06).prop, comes_call (fewL (d, ([] : List Int), ([] : List Int), ([] : List Pl), ())), (fewL (d, ([] : List Int), ([] : List Int), ([] : List Pl), ())).bprop, dec_false.2 f1, Bool.not_true, Bool.not_false, cond_true, cond_false, comes_ret]
  by_cases f2 : FewP w
  rotate_left
  · refine Comes.succ (fun nf _ _ _ => innkeeplaw06_DescMakes.eq nf _ _ _) ?_
    simp only [comes_call (awake06), (awake06).prop, comes_call (fewL (d, ([] : List Int), ([] : List Int), ([] : List Pl), ())), (fewL (d, ([] : List Int), ([] : List Int), ([] : List Pl), ())).bprop, comes_call (fewL w), (fewL w).bprop, dec_true.2 f1, dec_false.2 f2, Bool.not_true, Bool.not_false, cond_true, cond_false, comes_ret]
  by_cases f3 : FewP v
  rotate_left
  · refine Comes.succ (fun nf _ _ _ => innkeeplaw06_DescMakes.eq nf _ _ _) ?_
    simp only [comes_call (awake06), (awake06).prop, comes_call (fewL (d, ([] : List Int), ([] : List Int), ([] : List Pl), ())), (fewL (d, ([] : List Int), ([] : List Int), ([] : List Pl), ())).bprop, comes_call (fewL w), (fewL w).bprop, comes_call (fewL v), (fewL v).bprop, dec_true.2 f1, dec_true.2 f2, dec_false.2 f3, Bool.not_true, Bool.not_false, cond_true, cond_false, comes_ret]
  have sd := smD_of hd f1
  have sw := sm_of hw f2
  have sv := sm_of hv f3
  by_cases m : MayP d
  · refine Comes.succ (fun nf _ _ _ => innkeeplaw06_DescMakes.eq nf _ _ _) ?_
    simp only [comes_call (awake06), (awake06).prop, comes_call (fewL (d, ([] : List Int), ([] : List Int), ([] : List Pl), ())), (fewL (d, ([] : List Int), ([] : List Int), ([] : List Pl), ())).bprop, comes_call (fewL w), (fewL w).bprop, comes_call (fewL v), (fewL v).bprop, dec_true.2 f1, dec_true.2 f2, dec_true.2 f3, Bool.not_true, Bool.not_false, cond_true, cond_false, comes_ret]
    simp [-List.getD_eq_getElem?_getD, -List.length_eq_zero_iff, keepAll, freshHas, pathEq, eqPl_dec, wrap1, wrap0, nbeq, comes_call (dnew_spec d sd m), (dnew_spec d sd m).prop, comes_call (dmay_spec d sd), (dmay_spec d sd).prop, comes_call (may_spec d), (may_spec d).bprop, comes_call (dright_spec w sw), (dright_spec w sw).prop, comes_call (right_spec w), (right_spec w).bprop, comes_call (dsame_spec w v sw sv), (dsame_spec w v sw sv).prop, comes_call (same_spec w v sw sv), (same_spec w v sw sv).bprop, comes_call (copy_spec w sw), (copy_spec w sw).prop, comes_call (dsame_spec w w sw sw), (dsame_spec w w sw sw).prop, m, comes_call (rnew_spec d sd), (rnew_spec d sd).prop, comes_call (same_spec (newW d) (newW d) (newW_sm sd) (newW_sm sd)), (same_spec (newW d) (newW d) (newW_sm sd) (newW_sm sd)).bprop]
  · have z := same_spec zeroW zeroW zeroW_sm zeroW_sm
    unfold zeroW at z
    refine Comes.succ (fun nf _ _ _ => innkeeplaw06_DescMakes.eq nf _ _ _) ?_
    simp only [comes_call (awake06), (awake06).prop, comes_call (fewL (d, ([] : List Int), ([] : List Int), ([] : List Pl), ())), (fewL (d, ([] : List Int), ([] : List Int), ([] : List Pl), ())).bprop, comes_call (fewL w), (fewL w).bprop, comes_call (fewL v), (fewL v).bprop, dec_true.2 f1, dec_true.2 f2, dec_true.2 f3, Bool.not_true, Bool.not_false, cond_true, cond_false, comes_ret]
    simp [-List.getD_eq_getElem?_getD, -List.length_eq_zero_iff, keepAll, freshHas, pathEq, eqPl_dec, wrap1, wrap0, nbeq, comes_call (dnew_no d sd m), (dnew_no d sd m).prop, comes_call (dmay_spec d sd), (dmay_spec d sd).prop, comes_call (may_spec d), (may_spec d).bprop, comes_call (dright_spec w sw), (dright_spec w sw).prop, comes_call (right_spec w), (right_spec w).bprop, comes_call (dsame_spec w v sw sv), (dsame_spec w v sw sv).prop, comes_call (same_spec w v sw sv), (same_spec w v sw sv).bprop, comes_call (copy_spec w sw), (copy_spec w sw).prop, comes_call (dsame_spec w w sw sw), (dsame_spec w w sw sw).prop, m, zeroW, comes_call (z), (z).bprop]
end Go.Proofs.Ytkjcmjfdkmnikaa.Ghost
