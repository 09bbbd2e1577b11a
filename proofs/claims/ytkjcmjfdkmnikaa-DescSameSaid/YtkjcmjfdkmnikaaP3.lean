/- What functions come to, and that the statements are answered with 'true'. Conditions: none. -/
import Derived.Test.YtkjcmjfdkmnikaaS
import Derived.Test.YtkjcmjfdkmnikaaGE
import Derived.Test.YtkjcmjfdkmnikaaP1
import Derived.Test.YtkjcmjfdkmnikaaP2
set_option linter.unusedVariables false
set_option linter.unusedSimpArgs false
set_option linter.unusedSectionVars false
set_option linter.unnecessarySimpa false
namespace Go.Proofs.Ytkjcmjfdkmnikaa.Ghost
open Go
theorem ix_v2 (l : List Int) (hl : l.length ≤ 1048576) (t4 : Int) : ∀ i, i ≤ l.length → Comes (fun nf fm0 _ _ => slices_IndexFunc_sint_int_v2.l0 nf fm0 (l) t4 ((l.length : Int)) ((i : Int))) (fun r => 0 ≤ r.1.1 ↔ ∃ j, i ≤ j ∧ j < l.length ∧ ¬ pCoin (List.getD l j 0)) := by
  refine upto ?_ (fun i hi next => ?_)
  · refine Comes.succ1 (fun nf fm0 _ _ => slices_IndexFunc_sint_int_v2.l0_eq nf fm0 _ _ _ _) ?_
    simp [-List.getD_eq_getElem?_getD, -List.length_eq_zero_iff, keepAll, freshHas, pathEq, eqPl_dec, wrap1, wrap0, nbeq]
    omega
  · rw [← wrap_succ (by omega)] at next
    refine Comes.succ1 (fun nf fm0 _ _ => slices_IndexFunc_sint_int_v2.l0_eq nf fm0 _ _ _ _) ?_
    simp [-List.getD_eq_getElem?_getD, -List.length_eq_zero_iff, keepAll, freshHas, pathEq, eqPl_dec, wrap1, wrap0, nbeq, hi, comes_call (cl_v2 (List.getD l i 0)), (cl_v2 (List.getD l i 0)).prop]
    refine ⟨fun h => ⟨i, Nat.le_refl i, hi, h⟩, fun h => next.mono (fun v hv => ?_)⟩
    rw [hv]
    refine ⟨fun ⟨j, a, b, e⟩ => ⟨j, by omega, b, e⟩, fun ⟨j, a, b, e⟩ => ⟨j, ?_, b, e⟩⟩
    by_cases hj : j = i
    · subst hj; exact absurd h e
    · omega
theorem all_v2 (l : List Int) (hl : l.length ≤ 1048576) : Comes (fun nf _ _ _ => desc_all_int_v2 nf (l)) (fun r => r = ((dec (∀ j, j < l.length → pCoin (List.getD l j 0)), ()), [])) := by
  have h1 : Comes (fun nf _ _ _ => slices_IndexFunc_sint_int_v2 nf (l)) (fun r => 0 ≤ r.1.1 ↔ ∃ j, 0 ≤ j ∧ j < l.length ∧ ¬ pCoin (List.getD l j 0)) := by
    refine Comes.succ (fun nf _ _ _ => slices_IndexFunc_sint_int_v2.eq nf _) ?_
    exact (ix_v2 l hl _ 0 (Nat.zero_le _)).enter
  have h2 : Comes (fun nf _ _ _ => slices_ContainsFunc_sint_int_v2 nf (l)) (fun r => r = ((dec (∃ j, 0 ≤ j ∧ j < l.length ∧ ¬ pCoin (List.getD l j 0)), ()), [])) := by
    refine Comes.succ (fun nf _ _ _ => slices_ContainsFunc_sint_int_v2.eq nf _) ?_
    simp only [comes_call h1, comes_ret, decide_dec, h1.prop]
  refine Comes.succ (fun nf _ _ _ => desc_all_int_v2.eq nf _) ?_
  simp [comes_call (h2), (h2).prop]
def pRow (x : List Int) (c : Int) : Prop := ∀ k, k < x.length → pExit (List.getD x k 0) c
def pPl (x : Pl) (d : den tDesc) : Prop := GoodPl d x
theorem cl_row (x : List Int) (hx : x.length ≤ 1048576) (c : Int) : Comes (fun nf _ _ _ => desc_all_a4int_1 nf (x) (c)) (fun r => r = ((dec (¬ pRow x c), ()), [])) := by
  have h : Comes (fun nf _ _ _ => desc_May_2 nf (x) (c)) (fun r => r = ((dec (pRow x c), ()), [])) := by
    refine Comes.succ (fun nf _ _ _ => desc_May_2.eq nf _ _) ?_
    simp only [comes_call (all_v0 x hx c), (all_v0 x hx c).prop, comes_ret]
    rfl
  refine Comes.succ (fun nf _ _ _ => desc_all_a4int_1.eq nf _ _) ?_
  simp [comes_call (h), (h).prop]
theorem cl_pl (x : Pl) (c : den tDesc) (hb : List.length (c.2.2.2.2.1 : List Bool) = List.length (c.2.2.2.1 : List Int)) : Comes (fun nf _ _ _ => desc_all_api_Place_1 nf (x) (c)) (fun r => r = ((dec (¬ pPl x c), ()), [])) := by
  have h : Comes (fun nf _ _ _ => desc_Right_1 nf (x) (c)) (fun r => r = ((dec (pPl x c), ()), [])) := by
    refine Comes.succ (fun nf _ _ _ => desc_Right_1.eq nf _ _) ?_
    simp [-List.getD_eq_getElem?_getD, -List.length_eq_zero_iff, keepAll, freshHas, pathEq, eqPl_dec, wrap1, wrap0, nbeq, comes_call (dis_spec _ _), (dis_spec _ _).prop]
    have no : ∀ {a b : Int}, x.1 = a → x.1 = b → a ≠ b → False := fun e f h => h (e.symm.trans f)
    refine ⟨fun e => ?_, fun n0 => ⟨fun e => ?_, fun n1 => ⟨fun e => ⟨fun h => ⟨?_, ?_⟩, fun h => ?_⟩, fun n2 => ?_⟩⟩⟩
    · refine ⟨fun h => .inl ⟨e, h⟩, fun h => ?_⟩
      rcases h with h | h | h
      · exact h.2
      · exact (no e h.1 (by decide)).elim
      · exact (no e h.1 (by decide)).elim
    · refine ⟨fun h => .inr (.inl ⟨e, h⟩), fun h => ?_⟩
      rcases h with h | h | h
      · exact (no e h.1 (by decide)).elim
      · exact h.2
      · exact (no e h.1 (by decide)).elim
    · rw [hb]; exact h
    · by_cases hB : List.getD (c.2.2.2.2.1 : List Bool) (Int.toNat x.2.1) false = true
      · rw [hB]; exact (dec_true.2 (.inr (.inr ⟨e, h, hB⟩))).symm
      · rw [Bool.eq_false_iff.2 hB]
        refine (dec_false.2 (fun hp => ?_)).symm
        rcases hp with hp | hp | hp
        · exact no e hp.1 (by decide)
        · exact no e hp.1 (by decide)
        · exact hB hp.2.2
    · intro hp
      rcases hp with hp | hp | hp
      · exact no e hp.1 (by decide)
      · exact no e hp.1 (by decide)
      · exact h hp.2.1
    · intro hp
      rcases hp with hp | hp | hp
      · exact n0 hp.1
      · exact n1 hp.1
      · exact n2 hp.1
  refine Comes.succ (fun nf _ _ _ => desc_all_api_Place_1.eq nf _ _) ?_
  simp [comes_call (h), (h).prop]
theorem ix_row (l : List (List Int)) (hl : l.length ≤ 1048576) (c : Int) (hx : ∀ j, j < l.length → List.length (List.getD l j (dft (.arr 4 (.int .i64))) : List Int) ≤ 1048576) (t4 : Int) : ∀ i, i ≤ l.length → Comes (fun nf fm0 _ _ => slices_IndexFunc_sa4int_a4int.l0 nf fm0 (l) (c) t4 ((l.length : Int)) ((i : Int))) (fun r => 0 ≤ r.1.1 ↔ ∃ j, i ≤ j ∧ j < l.length ∧ ¬ pRow (List.getD l j (dft (.arr 4 (.int .i64)))) c) := by
  refine upto ?_ (fun i hi next => ?_)
  · refine Comes.succ1 (fun nf fm0 _ _ => slices_IndexFunc_sa4int_a4int.l0_eq nf fm0 _ _ _ _ _) ?_
    simp [-List.getD_eq_getElem?_getD, -List.length_eq_zero_iff, keepAll, freshHas, pathEq, eqPl_dec, wrap1, wrap0, nbeq]
    omega
  · rw [← wrap_succ (by omega)] at next
    refine Comes.succ1 (fun nf fm0 _ _ => slices_IndexFunc_sa4int_a4int.l0_eq nf fm0 _ _ _ _ _) ?_
    simp [-List.getD_eq_getElem?_getD, -List.length_eq_zero_iff, keepAll, freshHas, pathEq, eqPl_dec, wrap1, wrap0, nbeq, hi, comes_call (cl_row (List.getD l i (dft (.arr 4 (.int .i64)))) (hx i hi) c), (cl_row (List.getD l i (dft (.arr 4 (.int .i64)))) (hx i hi) c).prop]
    refine ⟨fun h => ⟨i, Nat.le_refl i, hi, h⟩, fun h => next.mono (fun v hv => ?_)⟩
    rw [hv]
    refine ⟨fun ⟨j, a, b, e⟩ => ⟨j, by omega, b, e⟩, fun ⟨j, a, b, e⟩ => ⟨j, ?_, b, e⟩⟩
    by_cases hj : j = i
    · subst hj; exact absurd h e
    · omega
theorem all_row (l : List (List Int)) (hl : l.length ≤ 1048576) (c : Int) (hx : ∀ j, j < l.length → List.length (List.getD l j (dft (.arr 4 (.int .i64))) : List Int) ≤ 1048576) : Comes (fun nf _ _ _ => desc_all_a4int nf (l) (c)) (fun r => r = ((dec (∀ j, j < l.length → pRow (List.getD l j (dft (.arr 4 (.int .i64)))) c), ()), [])) := by
  have h1 : Comes (fun nf _ _ _ => slices_IndexFunc_sa4int_a4int nf (l) (c)) (fun r => 0 ≤ r.1.1 ↔ ∃ j, 0 ≤ j ∧ j < l.length ∧ ¬ pRow (List.getD l j (dft (.arr 4 (.int .i64)))) c) := by
    refine Comes.succ (fun nf _ _ _ => slices_IndexFunc_sa4int_a4int.eq nf _ _) ?_
    exact (ix_row l hl c hx _ 0 (Nat.zero_le _)).enter
  have h2 : Comes (fun nf _ _ _ => slices_ContainsFunc_sa4int_a4int nf (l) (c)) (fun r => r = ((dec (∃ j, 0 ≤ j ∧ j < l.length ∧ ¬ pRow (List.getD l j (dft (.arr 4 (.int .i64)))) c), ()), [])) := by
    refine Comes.succ (fun nf _ _ _ => slices_ContainsFunc_sa4int_a4int.eq nf _ _) ?_
    simp only [comes_call h1, comes_ret, decide_dec, h1.prop]
  refine Comes.succ (fun nf _ _ _ => desc_all_a4int.eq nf _ _) ?_
  simp [comes_call (h2), (h2).prop]
theorem ix_pl (l : List (Pl)) (hl : l.length ≤ 1048576) (c : den tDesc) (hb : List.length (c.2.2.2.2.1 : List Bool) = List.length (c.2.2.2.1 : List Int)) (t4 : Int) : ∀ i, i ≤ l.length → Comes (fun nf fm0 _ _ => slices_IndexFunc_sapi_Place_api_Place.l0 nf fm0 (l) (c) t4 ((l.length : Int)) ((i : Int))) (fun r => 0 ≤ r.1.1 ↔ ∃ j, i ≤ j ∧ j < l.length ∧ ¬ pPl (List.getD l j (dft tPlace)) c) := by
  refine upto ?_ (fun i hi next => ?_)
  · refine Comes.succ1 (fun nf fm0 _ _ => slices_IndexFunc_sapi_Place_api_Place.l0_eq nf fm0 _ _ _ _ _) ?_
    simp [-List.getD_eq_getElem?_getD, -List.length_eq_zero_iff, keepAll, freshHas, pathEq, eqPl_dec, wrap1, wrap0, nbeq]
    omega
  · rw [← wrap_succ (by omega)] at next
    refine Comes.succ1 (fun nf fm0 _ _ => slices_IndexFunc_sapi_Place_api_Place.l0_eq nf fm0 _ _ _ _ _) ?_
    simp [-List.getD_eq_getElem?_getD, -List.length_eq_zero_iff, keepAll, freshHas, pathEq, eqPl_dec, wrap1, wrap0, nbeq, hi, comes_call (cl_pl (List.getD l i (dft tPlace)) c hb), (cl_pl (List.getD l i (dft tPlace)) c hb).prop]
    refine ⟨fun h => ⟨i, Nat.le_refl i, hi, h⟩, fun h => next.mono (fun v hv => ?_)⟩
    rw [hv]
    refine ⟨fun ⟨j, a, b, e⟩ => ⟨j, by omega, b, e⟩, fun ⟨j, a, b, e⟩ => ⟨j, ?_, b, e⟩⟩
    by_cases hj : j = i
    · subst hj; exact absurd h e
    · omega
theorem all_pl (l : List (Pl)) (hl : l.length ≤ 1048576) (c : den tDesc) (hb : List.length (c.2.2.2.2.1 : List Bool) = List.length (c.2.2.2.1 : List Int)) : Comes (fun nf _ _ _ => desc_all_api_Place nf (l) (c)) (fun r => r = ((dec (∀ j, j < l.length → pPl (List.getD l j (dft tPlace)) c), ()), [])) := by
  have h1 : Comes (fun nf _ _ _ => slices_IndexFunc_sapi_Place_api_Place nf (l) (c)) (fun r => 0 ≤ r.1.1 ↔ ∃ j, 0 ≤ j ∧ j < l.length ∧ ¬ pPl (List.getD l j (dft tPlace)) c) := by
    refine Comes.succ (fun nf _ _ _ => slices_IndexFunc_sapi_Place_api_Place.eq nf _ _) ?_
    exact (ix_pl l hl c hb _ 0 (Nat.zero_le _)).enter
  have h2 : Comes (fun nf _ _ _ => slices_ContainsFunc_sapi_Place_api_Place nf (l) (c)) (fun r => r = ((dec (∃ j, 0 ≤ j ∧ j < l.length ∧ ¬ pPl (List.getD l j (dft tPlace)) c), ()), [])) := by
    refine Comes.succ (fun nf _ _ _ => slices_ContainsFunc_sapi_Place_api_Place.eq nf _ _) ?_
    simp only [comes_call h1, comes_ret, decide_dec, h1.prop]
  refine Comes.succ (fun nf _ _ _ => desc_all_api_Place.eq nf _ _) ?_
  simp [comes_call (h2), (h2).prop]
end Go.Proofs.Ytkjcmjfdkmnikaa.Ghost
