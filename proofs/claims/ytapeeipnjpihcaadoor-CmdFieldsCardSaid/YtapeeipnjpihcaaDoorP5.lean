/- What functions come to, and that the statements are answered with 'true'. Conditions: none. -/
import Derived.Test.YtapeeipnjpihcaaDoorS
import Derived.Test.YtapeeipnjpihcaaDoorGE
import Derived.Test.YtapeeipnjpihcaaDoorP1
import Derived.Test.YtapeeipnjpihcaaDoorP2
import Derived.Test.YtapeeipnjpihcaaDoorP3
import Derived.Test.YtapeeipnjpihcaaDoorP4
set_option linter.unusedVariables false
set_option linter.unusedSimpArgs false
set_option linter.unusedSectionVars false
set_option linter.unnecessarySimpa false
namespace Go.Proofs.YtapeeipnjpihcaaDoor.Ghost
open Go
theorem awake03 : Comes (fun nf _ _ _ => innkeeplaw03_awake nf) (fun r => r.1.1 = true) := Comes.one 60 (r := ((true, ()), [])) (by kernel_rfl) rfl
def FewC (c : Cm) : Prop := (cGives c).length ≤ 40 ∧ (cWants c).length ≤ 40
theorem fewC_spec (c : Cm) : Comes (fun nf _ _ _ => innkeepref03_Few nf (c)) (fun r => r = ((dec (FewC c), ()), [])) := by
  refine Comes.succ (fun nf _ _ _ => innkeepref03_Few.eq nf _) ?_
  by_cases h : ((cGives c).length : Int) ≤ 40
  · have h1 : (cGives c).length ≤ 40 := by omega
    have e : FewC c = ((cWants c).length ≤ 40) := propext ⟨fun h => h.2, fun h => ⟨h1, h⟩⟩
    rw [e]
    simp [h, decide_dec]
    exact Int.ofNat_le
  · have : ¬ FewC c := fun h' => h (Int.ofNat_le.2 h'.1)
    simp [h, this]
theorem cmdMay_true (a b : Cm) (_ : wfD tCmd a) (_ : wfD tCmd b) : Comes (fun nf _ _ _ => innkeeplaw03_CmdMay nf (a) (b)) (fun r => r.1.1 = true) := by
  by_cases f1 : FewC a
  rotate_left
  · refine Comes.succ (fun nf _ _ _ => innkeeplaw03_CmdMay.eq nf _ _) ?_
    simp only [comes_call (awake03), (awake03).prop, comes_call (fewC_spec a), (fewC_spec a).prop, dec_false.2 f1, Bool.not_true, Bool.not_false, cond_true, cond_false, comes_ret]
  by_cases f2 : FewC b
  rotate_left
  · refine Comes.succ (fun nf _ _ _ => innkeeplaw03_CmdMay.eq nf _ _) ?_
    simp only [comes_call (awake03), (awake03).prop, comes_call (fewC_spec a), (fewC_spec a).prop, comes_call (fewC_spec b), (fewC_spec b).prop, dec_true.2 f1, dec_false.2 f2, Bool.not_true, Bool.not_false, cond_true, cond_false, comes_ret]
  have h1 : (cGives a).length ≤ 1048576 := by have := f1.1; omega
  have h2 : (cWants a).length ≤ 1048576 := by have := f1.2; omega
  have s0 := csame_spec a a h1 h2
  rw [dec_true.2 rfl] at s0
  refine Comes.succ (fun nf _ _ _ => innkeeplaw03_CmdMay.eq nf _ _) ?_
  simp only [comes_call (awake03), (awake03).prop, comes_call (fewC_spec a), (fewC_spec a).prop, comes_call (fewC_spec b), (fewC_spec b).prop, dec_true.2 f1, dec_true.2 f2, Bool.not_true, cond_true, cond_false, comes_ret, comes_call (cmay_spec a h1 h2), (cmay_spec a h1 h2).prop, comes_call (mayC_spec a h1 h2), (mayC_spec a h1 h2).bprop, comes_call (csame_spec a b h1 h2), (csame_spec a b h1 h2).prop, comes_call (rsame_spec a b h1 h2), (rsame_spec a b h1 h2).prop, eqT_bool, beq_self_eq_true, comes_call (s0), (s0).prop]
end Go.Proofs.YtapeeipnjpihcaaDoor.Ghost
