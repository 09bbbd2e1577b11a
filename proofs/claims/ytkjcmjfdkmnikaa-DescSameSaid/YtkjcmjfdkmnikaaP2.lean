/- What functions come to, and that the statements are answered with 'true'. Conditions: none. -/
import Derived.Test.YtkjcmjfdkmnikaaS
import Derived.Test.YtkjcmjfdkmnikaaGE
import Derived.Test.YtkjcmjfdkmnikaaP1
set_option linter.unusedVariables false
set_option linter.unusedSimpArgs false
set_option linter.unusedSectionVars false
set_option linter.unnecessarySimpa false
namespace Go.Proofs.Ytkjcmjfdkmnikaa.Ghost
open Go
theorem eqPl_f (x y : Pl) : eqT tPlace x y = false ↔ ¬ x = y := by rw [← eqPl, Bool.not_eq_true]
theorem eqPl_dec (x y : Pl) : eqT tPlace x y = dec (x = y) := by
  by_cases h : x = y
  · rw [(eqPl _ _).2 h, dec_true.2 h]
  · rw [(eqPl_f _ _).2 h, dec_false.2 h]
theorem wrap_sub {a b : Nat} (h : b ≤ a) (h1 : a < 4611686018427387904) : IntKind.wrap .i64 ((a : Int) - (b : Int)) = ((a - b : Nat) : Int) := by rw [wrap_id (by omega) (by omega)]; omega
theorem wrap_add {a b : Nat} (h1 : a < 2305843009213693952) (h2 : b < 2305843009213693952) : IntKind.wrap .i64 ((a : Int) + (b : Int)) = ((a + b : Nat) : Int) := by rw [wrap_id (by omega) (by omega)]; omega
theorem wrap_nat {a : Nat} (h : a < 9223372036854775808) : IntKind.wrap .i64 (a : Int) = (a : Int) := wrap_id (by omega) (by omega)
theorem wrap_one {a : Nat} (h : a < 9223372036854775807) : IntKind.wrap .i64 ((a : Int) + 1) = (a : Int) + 1 := wrap_id (by omega) (by omega)
theorem nbeq (a b : Nat) : Nat.beq a b = decide (a = b) := by
  by_cases h : a = b
  · rw [decide_eq_true h, h]; exact Nat.beq_refl b
  · rw [decide_eq_false h]; exact Bool.eq_false_iff.2 (fun e => h (Nat.eq_of_beq_eq_true e))
theorem wrap1 : IntKind.wrap .i64 1 = 1 := by decide
theorem wrap0 : IntKind.wrap .i64 0 = 0 := by decide
/-- a right world with short lists -/
structure Fit (w : den tWorld) : Prop where
  few : FewP w
  right : RightP w
theorem Comes.fit {w : den tWorld} {F : Nat → Nat → Nat → Nat → Option (dShL [.d .bool] × Fresh)} (h : Comes F (fun r => r.1.1 = true ↔ FewP w ∧ RightP w)) : Comes F (fun r => r.1.1 = true ↔ Fit w) :=
  h.mono (fun _ hv => hv.trans ⟨fun e => ⟨e.1, e.2⟩, fun e => ⟨e.few, e.right⟩⟩)
theorem RightP.exits_pos {w : den tWorld} (h : RightP w) : 0 < List.length (w.1.1 : List (List Int)) := Int.ofNat_lt.1 (Int.lt_of_le_of_lt (h.at_ 0 h.pos).1.1 (h.at_ 0 h.pos).1.2)
end Go.Proofs.Ytkjcmjfdkmnikaa.Ghost
namespace Go.Proofs.Ytkjcmjfdkmnikaa.Ghost
open Go
def pIs (x c : Int) : Prop := 0 ≤ x ∧ x < c
def pExit (x c : Int) : Prop := x = -1 ∨ pIs x c
def pCoin (x : Int) : Prop := 0 ≤ x ∧ x ≤ 1073741824
def pRm (x : Int) (d : den tDesc) : Prop := x ≤ (d.2.2.2.2.2.1 : Int)
def pRoom (x : Int) (d : den tDesc) : Prop := pIs x (List.length (d.1 : List (List Int)) : Int)
theorem dis_spec (a c : Int) : Comes (fun nf _ _ _ => desc_is nf (a) (c)) (fun r => r = ((dec (pIs a c), ()), [])) := by
  refine Comes.succ (fun nf _ _ _ => desc_is.eq nf _ _) ?_
  by_cases h : 0 ≤ a <;> simp [h, pIs, decide_dec]
theorem dholds_spec (a : Int) : Comes (fun nf _ _ _ => desc_holds nf (a)) (fun r => r = ((dec (pIs a 65), ()), [])) := by
  refine Comes.succ (fun nf _ _ _ => desc_holds.eq nf _) ?_
  simp [comes_call (dis_spec a 65), (dis_spec a 65).prop]
theorem dcoin_spec (a : Int) : Comes (fun nf _ _ _ => coin_Is nf (a)) (fun r => r = ((dec (pCoin a), ()), [])) := by
  refine Comes.succ (fun nf _ _ _ => coin_Is.eq nf _) ?_
  by_cases h : 0 ≤ a <;> simp [h, pCoin, decide_dec]
theorem cl_v1 (x c : Int) : Comes (fun nf _ _ _ => desc_all_int_1_v1 nf (x) (c)) (fun r => r = ((dec (¬ pIs x c), ()), [])) := by
  have h : Comes (fun nf _ _ _ => desc_May_1 nf (x) (c)) (fun r => r = ((dec (pIs x c), ()), [])) := by
    refine Comes.succ (fun nf _ _ _ => desc_May_1.eq nf _ _) ?_
    simp [comes_call (dis_spec x c), (dis_spec x c).prop]
  refine Comes.succ (fun nf _ _ _ => desc_all_int_1_v1.eq nf _ _) ?_
  simp [comes_call (h), (h).prop]
theorem cl_v2 (x : Int) : Comes (fun nf _ _ _ => desc_all_int_1_v2 nf (x)) (fun r => r = ((dec (¬ pCoin x), ()), [])) := by
  refine Comes.succ (fun nf _ _ _ => desc_all_int_1_v2.eq nf _) ?_
  simp [comes_call (dcoin_spec x), (dcoin_spec x).prop]
theorem cl_v3 (x : Int) (c : den tDesc) : Comes (fun nf _ _ _ => desc_all_int_1_v3 nf (x) (c)) (fun r => r = ((dec (¬ pRm x c), ()), [])) := by
  have h : Comes (fun nf _ _ _ => desc_May_3 nf (x) (c)) (fun r => r = ((dec (pRm x c), ()), [])) := by
    refine Comes.succ (fun nf _ _ _ => desc_May_3.eq nf _ _) ?_
    simp [decide_dec, pRm]
  refine Comes.succ (fun nf _ _ _ => desc_all_int_1_v3.eq nf _ _) ?_
  simp [comes_call (h), (h).prop]
theorem cl_v4 (x : Int) (c : den tDesc) : Comes (fun nf _ _ _ => desc_all_int_1_v4 nf (x) (c)) (fun r => r = ((dec (¬ pRoom x c), ()), [])) := by
  have h : Comes (fun nf _ _ _ => desc_Right_2 nf (x) (c)) (fun r => r = ((dec (pRoom x c), ()), [])) := by
    refine Comes.succ (fun nf _ _ _ => desc_Right_2.eq nf _ _) ?_
    simp [comes_call (dis_spec _ _), (dis_spec _ _).prop, pRoom]
  refine Comes.succ (fun nf _ _ _ => desc_all_int_1_v4.eq nf _ _) ?_
  simp [comes_call (h), (h).prop]
theorem cl_v0 (x c : Int) : Comes (fun nf _ _ _ => desc_all_int_1 nf (x) (c)) (fun r => r = ((dec (¬ pExit x c), ()), [])) := by
  have h : Comes (fun nf _ _ _ => desc_May_1 nf (x) (c)) (fun r => r = ((dec (pIs x c), ()), [])) := by
    refine Comes.succ (fun nf _ _ _ => desc_May_1.eq nf _ _) ?_
    simp [comes_call (dis_spec x c), (dis_spec x c).prop]
  have h2 : Comes (fun nf _ _ _ => desc_May_2_1 nf (x) (c)) (fun r => r = ((dec (pExit x c), ()), [])) := by
    refine Comes.succ (fun nf _ _ _ => desc_May_2_1.eq nf _ _) ?_
    by_cases e : x = -1 <;> simp [e, comes_call (h), (h).prop, pExit]
  refine Comes.succ (fun nf _ _ _ => desc_all_int_1.eq nf _ _) ?_
  simp [comes_call (h2), (h2).prop]
theorem ix_v0 (l : List Int) (hl : l.length ≤ 1048576) (c : Int) (t4 : Int) : ∀ i, i ≤ l.length → Comes (fun nf fm0 _ _ => slices_IndexFunc_sint_int.l0 nf fm0 (l) (c) t4 ((l.length : Int)) ((i : Int))) (fun r => 0 ≤ r.1.1 ↔ ∃ j, i ≤ j ∧ j < l.length ∧ ¬ pExit (List.getD l j 0) c) := by
  refine upto ?_ (fun i hi next => ?_)
  · refine Comes.succ1 (fun nf fm0 _ _ => slices_IndexFunc_sint_int.l0_eq nf fm0 _ _ _ _ _) ?_
    simp [-List.getD_eq_getElem?_getD, -List.length_eq_zero_iff, keepAll, freshHas, pathEq, eqPl_dec, wrap1, wrap0, nbeq]
    omega
  · rw [← wrap_succ (by omega)] at next
    refine Comes.succ1 (fun nf fm0 _ _ => slices_IndexFunc_sint_int.l0_eq nf fm0 _ _ _ _ _) ?_
    simp [-List.getD_eq_getElem?_getD, -List.length_eq_zero_iff, keepAll, freshHas, pathEq, eqPl_dec, wrap1, wrap0, nbeq, hi, comes_call (cl_v0 (List.getD l i 0) c), (cl_v0 (List.getD l i 0) c).prop]
    refine ⟨fun h => ⟨i, Nat.le_refl i, hi, h⟩, fun h => next.mono (fun v hv => ?_)⟩
    rw [hv]
    refine ⟨fun ⟨j, a, b, e⟩ => ⟨j, by omega, b, e⟩, fun ⟨j, a, b, e⟩ => ⟨j, ?_, b, e⟩⟩
    by_cases hj : j = i
    · subst hj; exact absurd h e
    · omega
theorem all_v0 (l : List Int) (hl : l.length ≤ 1048576) (c : Int) : Comes (fun nf _ _ _ => desc_all_int nf (l) (c)) (fun r => r = ((dec (∀ j, j < l.length → pExit (List.getD l j 0) c), ()), [])) := by
  have h1 : Comes (fun nf _ _ _ => slices_IndexFunc_sint_int nf (l) (c)) (fun r => 0 ≤ r.1.1 ↔ ∃ j, 0 ≤ j ∧ j < l.length ∧ ¬ pExit (List.getD l j 0) c) := by
    refine Comes.succ (fun nf _ _ _ => slices_IndexFunc_sint_int.eq nf _ _) ?_
    exact (ix_v0 l hl c _ 0 (Nat.zero_le _)).enter
  have h2 : Comes (fun nf _ _ _ => slices_ContainsFunc_sint_int nf (l) (c)) (fun r => r = ((dec (∃ j, 0 ≤ j ∧ j < l.length ∧ ¬ pExit (List.getD l j 0) c), ()), [])) := by
    refine Comes.succ (fun nf _ _ _ => slices_ContainsFunc_sint_int.eq nf _ _) ?_
    simp only [comes_call h1, comes_ret, decide_dec, h1.prop]
  refine Comes.succ (fun nf _ _ _ => desc_all_int.eq nf _ _) ?_
  simp [comes_call (h2), (h2).prop]
theorem ix_v1 (l : List Int) (hl : l.length ≤ 1048576) (c : Int) (t4 : Int) : ∀ i, i ≤ l.length → Comes (fun nf fm0 _ _ => slices_IndexFunc_sint_int_v1.l0 nf fm0 (l) (c) t4 ((l.length : Int)) ((i : Int))) (fun r => 0 ≤ r.1.1 ↔ ∃ j, i ≤ j ∧ j < l.length ∧ ¬ pIs (List.getD l j 0) c) := by
  refine upto ?_ (fun i hi next => ?_)
  · refine Comes.succ1 (fun nf fm0 _ _ => slices_IndexFunc_sint_int_v1.l0_eq nf fm0 _ _ _ _ _) ?_
    simp [-List.getD_eq_getElem?_getD, -List.length_eq_zero_iff, keepAll, freshHas, pathEq, eqPl_dec, wrap1, wrap0, nbeq]
    omega
  · rw [← wrap_succ (by omega)] at next
    refine Comes.succ1 (fun nf fm0 _ _ => slices_IndexFunc_sint_int_v1.l0_eq nf fm0 _ _ _ _ _) ?_
    simp [-List.getD_eq_getElem?_getD, -List.length_eq_zero_iff, keepAll, freshHas, pathEq, eqPl_dec, wrap1, wrap0, nbeq, hi, comes_call (cl_v1 (List.getD l i 0) c), (cl_v1 (List.getD l i 0) c).prop]
    refine ⟨fun h => ⟨i, Nat.le_refl i, hi, h⟩, fun h => next.mono (fun v hv => ?_)⟩
    rw [hv]
    refine ⟨fun ⟨j, a, b, e⟩ => ⟨j, by omega, b, e⟩, fun ⟨j, a, b, e⟩ => ⟨j, ?_, b, e⟩⟩
    by_cases hj : j = i
    · subst hj; exact absurd h e
    · omega
theorem all_v1 (l : List Int) (hl : l.length ≤ 1048576) (c : Int) : Comes (fun nf _ _ _ => desc_all_int_v1 nf (l) (c)) (fun r => r = ((dec (∀ j, j < l.length → pIs (List.getD l j 0) c), ()), [])) := by
  have h1 : Comes (fun nf _ _ _ => slices_IndexFunc_sint_int_v1 nf (l) (c)) (fun r => 0 ≤ r.1.1 ↔ ∃ j, 0 ≤ j ∧ j < l.length ∧ ¬ pIs (List.getD l j 0) c) := by
    refine Comes.succ (fun nf _ _ _ => slices_IndexFunc_sint_int_v1.eq nf _ _) ?_
    exact (ix_v1 l hl c _ 0 (Nat.zero_le _)).enter
  have h2 : Comes (fun nf _ _ _ => slices_ContainsFunc_sint_int_v1 nf (l) (c)) (fun r => r = ((dec (∃ j, 0 ≤ j ∧ j < l.length ∧ ¬ pIs (List.getD l j 0) c), ()), [])) := by
    refine Comes.succ (fun nf _ _ _ => slices_ContainsFunc_sint_int_v1.eq nf _ _) ?_
    simp only [comes_call h1, comes_ret, decide_dec, h1.prop]
  refine Comes.succ (fun nf _ _ _ => desc_all_int_v1.eq nf _ _) ?_
  simp [comes_call (h2), (h2).prop]
theorem ix_v3 (l : List Int) (hl : l.length ≤ 1048576) (c : den tDesc) (t4 : Int) : ∀ i, i ≤ l.length → Comes (fun nf fm0 _ _ => slices_IndexFunc_sint_int_v3.l0 nf fm0 (l) (c) t4 ((l.length : Int)) ((i : Int))) (fun r => 0 ≤ r.1.1 ↔ ∃ j, i ≤ j ∧ j < l.length ∧ ¬ pRm (List.getD l j 0) c) := by
  refine upto ?_ (fun i hi next => ?_)
  · refine Comes.succ1 (fun nf fm0 _ _ => slices_IndexFunc_sint_int_v3.l0_eq nf fm0 _ _ _ _ _) ?_
    simp [-List.getD_eq_getElem?_getD, -List.length_eq_zero_iff, keepAll, freshHas, pathEq, eqPl_dec, wrap1, wrap0, nbeq]
    omega
  · rw [← wrap_succ (by omega)] at next
    refine Comes.succ1 (fun nf fm0 _ _ => slices_IndexFunc_sint_int_v3.l0_eq nf fm0 _ _ _ _ _) ?_
    simp [-List.getD_eq_getElem?_getD, -List.length_eq_zero_iff, keepAll, freshHas, pathEq, eqPl_dec, wrap1, wrap0, nbeq, hi, comes_call (cl_v3 (List.getD l i 0) c), (cl_v3 (List.getD l i 0) c).prop]
    refine ⟨fun h => ⟨i, Nat.le_refl i, hi, h⟩, fun h => next.mono (fun v hv => ?_)⟩
    rw [hv]
    refine ⟨fun ⟨j, a, b, e⟩ => ⟨j, by omega, b, e⟩, fun ⟨j, a, b, e⟩ => ⟨j, ?_, b, e⟩⟩
    by_cases hj : j = i
    · subst hj; exact absurd h e
    · omega
theorem all_v3 (l : List Int) (hl : l.length ≤ 1048576) (c : den tDesc) : Comes (fun nf _ _ _ => desc_all_int_v3 nf (l) (c)) (fun r => r = ((dec (∀ j, j < l.length → pRm (List.getD l j 0) c), ()), [])) := by
  have h1 : Comes (fun nf _ _ _ => slices_IndexFunc_sint_int_v3 nf (l) (c)) (fun r => 0 ≤ r.1.1 ↔ ∃ j, 0 ≤ j ∧ j < l.length ∧ ¬ pRm (List.getD l j 0) c) := by
    refine Comes.succ (fun nf _ _ _ => slices_IndexFunc_sint_int_v3.eq nf _ _) ?_
    exact (ix_v3 l hl c _ 0 (Nat.zero_le _)).enter
  have h2 : Comes (fun nf _ _ _ => slices_ContainsFunc_sint_int_v3 nf (l) (c)) (fun r => r = ((dec (∃ j, 0 ≤ j ∧ j < l.length ∧ ¬ pRm (List.getD l j 0) c), ()), [])) := by
    refine Comes.succ (fun nf _ _ _ => slices_ContainsFunc_sint_int_v3.eq nf _ _) ?_
    simp only [comes_call h1, comes_ret, decide_dec, h1.prop]
  refine Comes.succ (fun nf _ _ _ => desc_all_int_v3.eq nf _ _) ?_
  simp [comes_call (h2), (h2).prop]
theorem ix_v4 (l : List Int) (hl : l.length ≤ 1048576) (c : den tDesc) (t4 : Int) : ∀ i, i ≤ l.length → Comes (fun nf fm0 _ _ => slices_IndexFunc_sint_int_v4.l0 nf fm0 (l) (c) t4 ((l.length : Int)) ((i : Int))) (fun r => 0 ≤ r.1.1 ↔ ∃ j, i ≤ j ∧ j < l.length ∧ ¬ pRoom (List.getD l j 0) c) := by
  refine upto ?_ (fun i hi next => ?_)
  · refine Comes.succ1 (fun nf fm0 _ _ => slices_IndexFunc_sint_int_v4.l0_eq nf fm0 _ _ _ _ _) ?_
    simp [-List.getD_eq_getElem?_getD, -List.length_eq_zero_iff, keepAll, freshHas, pathEq, eqPl_dec, wrap1, wrap0, nbeq]
    omega
  · rw [← wrap_succ (by omega)] at next
    refine Comes.succ1 (fun nf fm0 _ _ => slices_IndexFunc_sint_int_v4.l0_eq nf fm0 _ _ _ _ _) ?_
    simp [-List.getD_eq_getElem?_getD, -List.length_eq_zero_iff, keepAll, freshHas, pathEq, eqPl_dec, wrap1, wrap0, nbeq, hi, comes_call (cl_v4 (List.getD l i 0) c), (cl_v4 (List.getD l i 0) c).prop]
    refine ⟨fun h => ⟨i, Nat.le_refl i, hi, h⟩, fun h => next.mono (fun v hv => ?_)⟩
    rw [hv]
    refine ⟨fun ⟨j, a, b, e⟩ => ⟨j, by omega, b, e⟩, fun ⟨j, a, b, e⟩ => ⟨j, ?_, b, e⟩⟩
    by_cases hj : j = i
    · subst hj; exact absurd h e
    · omega
theorem all_v4 (l : List Int) (hl : l.length ≤ 1048576) (c : den tDesc) : Comes (fun nf _ _ _ => desc_all_int_v4 nf (l) (c)) (fun r => r = ((dec (∀ j, j < l.length → pRoom (List.getD l j 0) c), ()), [])) := by
  have h1 : Comes (fun nf _ _ _ => slices_IndexFunc_sint_int_v4 nf (l) (c)) (fun r => 0 ≤ r.1.1 ↔ ∃ j, 0 ≤ j ∧ j < l.length ∧ ¬ pRoom (List.getD l j 0) c) := by
    refine Comes.succ (fun nf _ _ _ => slices_IndexFunc_sint_int_v4.eq nf _ _) ?_
    exact (ix_v4 l hl c _ 0 (Nat.zero_le _)).enter
  have h2 : Comes (fun nf _ _ _ => slices_ContainsFunc_sint_int_v4 nf (l) (c)) (fun r => r = ((dec (∃ j, 0 ≤ j ∧ j < l.length ∧ ¬ pRoom (List.getD l j 0) c), ()), [])) := by
    refine Comes.succ (fun nf _ _ _ => slices_ContainsFunc_sint_int_v4.eq nf _ _) ?_
    simp only [comes_call h1, comes_ret, decide_dec, h1.prop]
  refine Comes.succ (fun nf _ _ _ => desc_all_int_v4.eq nf _ _) ?_
  simp [comes_call (h2), (h2).prop]
end Go.Proofs.Ytkjcmjfdkmnikaa.Ghost
