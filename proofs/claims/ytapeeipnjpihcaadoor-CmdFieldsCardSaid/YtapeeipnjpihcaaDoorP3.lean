/- What functions come to, and that the statements are answered with 'true'. Conditions: none. -/
import Derived.Test.YtapeeipnjpihcaaDoorS
import Derived.Test.YtapeeipnjpihcaaDoorGE
import Derived.Test.YtapeeipnjpihcaaDoorP1
import Derived.Test.YtapeeipnjpihcaaDoorP2
set_option linter.unusedVariables false
set_option linter.unusedSimpArgs false
set_option linter.unusedSectionVars false
set_option linter.unnecessarySimpa false
namespace Go.Proofs.YtapeeipnjpihcaaDoor.Ghost
open Go
theorem eqPlain_dec (x y : den tplain) : eqT tplain x y = dec (x = y) := by
  obtain ⟨a1, a2, a3, a4, a5, a6, a7, ⟨⟩⟩ := x
  obtain ⟨b1, b2, b3, b4, b5, b6, b7, ⟨⟩⟩ := y
  rw [Bool.eq_iff_iff, dec_true]
  simp [eqT, eqTL]
theorem csame_spec (a b : Cm) (h1 : (cGives a).length ≤ 1048576) (h2 : (cWants a).length ≤ 1048576) : Comes (fun nf _ _ _ => cmd_Same nf (a) (b)) (fun r => r = ((dec (a = b), ()), [])) := by
  have of_ : ∀ c : Cm, Comes (fun nf _ _ _ => cmd_of nf (c)) (fun r => r = (((cKind c, cDir c, cItem c, cBox c, cWho c, cPay c, cFee c, ()), ()), [])) := fun c => by
    refine Comes.succ (fun nf _ _ _ => cmd_of.eq nf _) ?_
    simp
  have e : (a = b) = (((cKind a, cDir a, cItem a, cBox a, cWho a, cPay a, cFee a, ()) : den tplain) = (cKind b, cDir b, cItem b, cBox b, cWho b, cPay b, cFee b, ()) ∧ cGives a = cGives b ∧ cWants a = cWants b) := by
    obtain ⟨a1, a2, a3, a4, a5, a6, a7, a8, a9, ⟨⟩⟩ := a
    obtain ⟨b1, b2, b3, b4, b5, b6, b7, b8, b9, ⟨⟩⟩ := b
    refine propext ?_
    simp
    grind
  obtain ⟨b4, e4, s4⟩ : ∃ x, (x = true) = (cGives a = cGives b) ∧ Comes (fun nf _ _ _ => slices_Equal_sint_int nf (cGives a) (cGives b)) (fun r => r = ((x, ()), [])) := ⟨_, propext dec_true, eqI_spec _ _ h1⟩
  obtain ⟨b5, e5, s5⟩ : ∃ x, (x = true) = (cWants a = cWants b) ∧ Comes (fun nf _ _ _ => slices_Equal_sint_int nf (cWants a) (cWants b)) (fun r => r = ((x, ()), [])) := ⟨_, propext dec_true, eqI_spec _ _ h2⟩
  rw [e, ← e4, ← e5]
  refine Comes.succ (fun nf _ _ _ => cmd_Same.eq nf _ _) ?_
  by_cases h : ((cKind a, cDir a, cItem a, cBox a, cWho a, cPay a, cFee a, ()) : den tplain) = (cKind b, cDir b, cItem b, cBox b, cWho b, cPay b, cFee b, ())
  · simp only [comes_call (of_ a), (of_ a).prop, comes_call (of_ b), (of_ b).prop, eqPlain_dec, dec_true.2 h, cond_true]
    simp only [comes_call s4, s4.prop]
    cases b4
    · simp only [cond_false, comes_ret]; simp [h]
    · simp only [cond_true, comes_call s5, s5.prop, comes_ret]
      cases b5 <;> simp [h]
  · simp only [comes_call (of_ a), (of_ a).prop, comes_call (of_ b), (of_ b).prop, eqPlain_dec, dec_false.2 h, cond_false, comes_ret]
    rw [dec_false.2 (fun hh => h hh.1)]
theorem rsame_spec (a b : Cm) (h1 : (cGives a).length ≤ 1048576) (h2 : (cWants a).length ≤ 1048576) : Comes (fun nf _ _ _ => innkeepref03_Same nf (a) (b)) (fun r => r = ((dec (a = b), ()), [])) := by
  have e : (a = b) = (cKind a = cKind b ∧ cDir a = cDir b ∧ cItem a = cItem b ∧ cBox a = cBox b ∧ cWho a = cWho b ∧ cPay a = cPay b ∧ cFee a = cFee b ∧ cGives a = cGives b ∧ cWants a = cWants b) := by
    obtain ⟨a1, a2, a3, a4, a5, a6, a7, a8, a9, ⟨⟩⟩ := a
    obtain ⟨b1, b2, b3, b4, b5, b6, b7, b8, b9, ⟨⟩⟩ := b
    refine propext ?_
    simp
    grind
  obtain ⟨b4, e4, s4⟩ : ∃ x, (x = true) = (cGives a = cGives b) ∧ Comes (fun nf _ _ _ => innkeepref03_Ints nf (cGives a) (cGives b)) (fun r => r = ((x, ()), [])) := ⟨_, propext dec_true, ints_spec _ _ h1⟩
  obtain ⟨b5, e5, s5⟩ : ∃ x, (x = true) = (cWants a = cWants b) ∧ Comes (fun nf _ _ _ => innkeepref03_Ints nf (cWants a) (cWants b)) (fun r => r = ((x, ()), [])) := ⟨_, propext dec_true, ints_spec _ _ h2⟩
  rw [e, ← e4, ← e5]
  refine Comes.succ (fun nf _ _ _ => innkeepref03_Same.eq nf _ _) ?_
  by_cases g1 : cKind a = cKind b <;> by_cases g2 : cDir a = cDir b <;> by_cases g3 : cItem a = cItem b <;> by_cases g4 : cBox a = cBox b <;> by_cases g5 : cWho a = cWho b <;> by_cases g6 : cPay a = cPay b <;> by_cases g7 : cFee a = cFee b <;> simp [g1, g2, g3, g4, g5, g6, g7, comes_call (s4), (s4).prop, comes_call (s5), (s5).prop]
  cases b4 <;> cases b5 <;> simp
def fit1 (n : Int) : Prop := 0 ≤ n ∧ n ≤ 1073741824
theorem cfit_spec (a : Int) : Comes (fun nf _ _ _ => cmd_fit nf (a)) (fun r => r = ((dec (fit1 a), ()), [])) := by
  refine Comes.succ (fun nf _ _ _ => cmd_fit.eq nf _) ?_
  by_cases h : 0 ≤ a <;> simp [h, fit1, decide_dec]
theorem ixrow (l : List Int) (hl : l.length ≤ 1048576) (t4 : Int) : ∀ i, i ≤ l.length → Comes (fun nf fm0 _ _ => slices_IndexFunc_sint_int.l0 nf fm0 (l) t4 ((l.length : Int)) ((i : Int))) (fun r => 0 ≤ r.1.1 ↔ ∃ j, i ≤ j ∧ j < l.length ∧ ¬ fit1 (List.getD l j 0)) := by
  have cl : ∀ x, Comes (fun nf _ _ _ => cmd_row_1 nf (x)) (fun r => r = ((dec (¬ fit1 x), ()), [])) := fun x => by
    refine Comes.succ (fun nf _ _ _ => cmd_row_1.eq nf _) ?_
    simp [comes_call (cfit_spec x), (cfit_spec x).prop]
  refine upto ?_ (fun i hi next => ?_)
  · refine Comes.succ1 (fun nf fm0 _ _ => slices_IndexFunc_sint_int.l0_eq nf fm0 _ _ _ _) ?_
    simp [-List.getD_eq_getElem?_getD, -List.length_eq_zero_iff, keepAll, freshHas, pathEq, eqPl_dec, wrap1, wrap0, nbeq]
    omega
  · rw [← wrap_succ (by omega)] at next
    refine Comes.succ1 (fun nf fm0 _ _ => slices_IndexFunc_sint_int.l0_eq nf fm0 _ _ _ _) ?_
    simp [-List.getD_eq_getElem?_getD, -List.length_eq_zero_iff, keepAll, freshHas, pathEq, eqPl_dec, wrap1, wrap0, nbeq, hi, comes_call (cl (List.getD l i 0)), (cl (List.getD l i 0)).prop]
    refine ⟨fun h => ⟨i, Nat.le_refl i, hi, h⟩, fun h => next.mono (fun v hv => ?_)⟩
    rw [hv]
    refine ⟨fun ⟨j, a, b, e⟩ => ⟨j, by omega, b, e⟩, fun ⟨j, a, b, e⟩ => ⟨j, ?_, b, e⟩⟩
    by_cases hj : j = i
    · subst hj; exact absurd h e
    · omega
def row1 (l : List Int) : Prop := (∀ j, j < l.length → fit1 (List.getD l j 0)) ∧ l.length ≤ 16
theorem crow_spec (l : List Int) (hl : l.length ≤ 1048576) : Comes (fun nf _ _ _ => cmd_row nf (l)) (fun r => r = ((dec (row1 l), ()), [])) := by
  have h1 : Comes (fun nf _ _ _ => slices_IndexFunc_sint_int nf (l)) (fun r => 0 ≤ r.1.1 ↔ ∃ j, 0 ≤ j ∧ j < l.length ∧ ¬ fit1 (List.getD l j 0)) := by
    refine Comes.succ (fun nf _ _ _ => slices_IndexFunc_sint_int.eq nf _) ?_
    exact (ixrow l hl _ 0 (Nat.zero_le _)).enter
  have h2 : Comes (fun nf _ _ _ => slices_ContainsFunc_sint_int nf (l)) (fun r => r = ((dec (∃ j, 0 ≤ j ∧ j < l.length ∧ ¬ fit1 (List.getD l j 0)), ()), [])) := by
    refine Comes.succ (fun nf _ _ _ => slices_ContainsFunc_sint_int.eq nf _) ?_
    simp only [comes_call h1, comes_ret, decide_dec, h1.prop]
  refine Comes.succ (fun nf _ _ _ => cmd_row.eq nf _) ?_
  by_cases hn : (l.length : Int) ≤ 16
  · have : l.length ≤ 16 := by omega
    simp [comes_call (h2), (h2).prop, hn, row1, this]
  · have : ¬ l.length ≤ 16 := by omega
    simp [hn, row1, this]
end Go.Proofs.YtapeeipnjpihcaaDoor.Ghost
