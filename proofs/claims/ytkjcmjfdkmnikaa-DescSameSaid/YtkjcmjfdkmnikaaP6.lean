/- What functions come to, and that the statements are answered with 'true'. Conditions: none. -/
import Derived.Test.YtkjcmjfdkmnikaaS
import Derived.Test.YtkjcmjfdkmnikaaGE
import Derived.Test.YtkjcmjfdkmnikaaP1
import Derived.Test.YtkjcmjfdkmnikaaP2
import Derived.Test.YtkjcmjfdkmnikaaP3
import Derived.Test.YtkjcmjfdkmnikaaP4
import Derived.Test.YtkjcmjfdkmnikaaP5
set_option linter.unusedVariables false
set_option linter.unusedSimpArgs false
set_option linter.unusedSectionVars false
set_option linter.unnecessarySimpa false
namespace Go.Proofs.Ytkjcmjfdkmnikaa.Ghost
open Go
theorem eqI_l0 (a b : List Int) (ha : a.length ≤ 1048576) (hl : a.length = b.length) (t4 : Bool) : ∀ i, i ≤ a.length → Comes (fun nf fm0 _ _ => slices_Equal_sint_int.l0 nf fm0 (a) (b) t4 ((a.length : Int)) ((i : Int))) (fun r => r = ((dec (∀ j, i ≤ j → j < a.length → List.getD a j (0:Int) = List.getD b j (0:Int)), ()), [])) := by
  refine upto ?_ (fun i hi next => ?_)
  · refine Comes.succ1 (fun nf fm0 _ _ => slices_Equal_sint_int.l0_eq nf fm0 _ _ _ _ _) ?_
    simp [-List.getD_eq_getElem?_getD, -List.length_eq_zero_iff, keepAll, freshHas, pathEq, eqPl_dec, wrap1, wrap0, nbeq]
    intro j h1 h2; omega
  · rw [← wrap_succ (by omega)] at next
    have hi2 : i < b.length := by omega
    refine Comes.succ1 (fun nf fm0 _ _ => slices_Equal_sint_int.l0_eq nf fm0 _ _ _ _ _) ?_
    by_cases e : List.getD a i (0:Int) = List.getD b i (0:Int)
    · simp [-List.getD_eq_getElem?_getD, -List.length_eq_zero_iff, keepAll, freshHas, pathEq, eqPl_dec, wrap1, wrap0, nbeq, hi, hi2, e]
      refine next.mono (fun v hv => ?_)
      rw [hv]
      have : (∀ j, i + 1 ≤ j → j < a.length → List.getD a j (0:Int) = List.getD b j (0:Int)) = (∀ j, i ≤ j → j < a.length → List.getD a j (0:Int) = List.getD b j (0:Int)) := propext ⟨fun h j h1 h2 => by
        by_cases hj : j = i
        · subst hj; exact e
        · exact h j (by omega) h2, fun h j h1 h2 => h j (by omega) h2⟩
      rw [this]
    · simp [-List.getD_eq_getElem?_getD, -List.length_eq_zero_iff, keepAll, freshHas, pathEq, eqPl_dec, wrap1, wrap0, nbeq, hi, hi2, e]
      exact ⟨i, Nat.le_refl i, hi, e⟩
theorem eqI_spec (a b : List Int) (ha : a.length ≤ 1048576) : Comes (fun nf _ _ _ => slices_Equal_sint_int nf (a) (b)) (fun r => r = ((dec (a = b), ()), [])) := by
  by_cases hl : a.length = b.length
  · have l0 := (eqI_l0 a b ha hl false 0 (Nat.zero_le _)).enter
    have : (∀ j, 0 ≤ j → j < a.length → List.getD a j (0:Int) = List.getD b j (0:Int)) = (a = b) := propext ⟨fun h => ext_getD (0:Int) hl (fun j hj => h j (Nat.zero_le j) hj), fun h j _ _ => by rw [h]⟩
    rw [this] at l0
    refine Comes.succ (fun nf _ _ _ => slices_Equal_sint_int.eq nf _ _) ?_
    simp [-List.getD_eq_getElem?_getD, -List.length_eq_zero_iff, keepAll, freshHas, pathEq, eqPl_dec, wrap1, wrap0, nbeq, hl]
    rw [hl] at l0
    exact l0
  · have e : ¬ a = b := fun e => hl (by rw [e])
    refine Comes.succ (fun nf _ _ _ => slices_Equal_sint_int.eq nf _ _) ?_
    simp [-List.getD_eq_getElem?_getD, -List.length_eq_zero_iff, keepAll, freshHas, pathEq, eqPl_dec, wrap1, wrap0, nbeq, hl, e, show ¬ (a.length : Int) = (b.length : Int) by omega]
theorem eqP_l0 (a b : List Pl) (ha : a.length ≤ 1048576) (hl : a.length = b.length) (t4 : Bool) : ∀ i, i ≤ a.length → Comes (fun nf fm0 _ _ => slices_Equal_sapi_Place_api_Place.l0 nf fm0 (a) (b) t4 ((a.length : Int)) ((i : Int))) (fun r => r = ((dec (∀ j, i ≤ j → j < a.length → List.getD a j (dft tPlace) = List.getD b j (dft tPlace)), ()), [])) := by
  refine upto ?_ (fun i hi next => ?_)
  · refine Comes.succ1 (fun nf fm0 _ _ => slices_Equal_sapi_Place_api_Place.l0_eq nf fm0 _ _ _ _ _) ?_
    simp [-List.getD_eq_getElem?_getD, -List.length_eq_zero_iff, keepAll, freshHas, pathEq, eqPl_dec, wrap1, wrap0, nbeq]
    intro j h1 h2; omega
  · rw [← wrap_succ (by omega)] at next
    have hi2 : i < b.length := by omega
    refine Comes.succ1 (fun nf fm0 _ _ => slices_Equal_sapi_Place_api_Place.l0_eq nf fm0 _ _ _ _ _) ?_
    by_cases e : List.getD a i (dft tPlace) = List.getD b i (dft tPlace)
    · simp [-List.getD_eq_getElem?_getD, -List.length_eq_zero_iff, keepAll, freshHas, pathEq, eqPl_dec, wrap1, wrap0, nbeq, hi, hi2, e]
      refine next.mono (fun v hv => ?_)
      rw [hv]
      have : (∀ j, i + 1 ≤ j → j < a.length → List.getD a j (dft tPlace) = List.getD b j (dft tPlace)) = (∀ j, i ≤ j → j < a.length → List.getD a j (dft tPlace) = List.getD b j (dft tPlace)) := propext ⟨fun h j h1 h2 => by
        by_cases hj : j = i
        · subst hj; exact e
        · exact h j (by omega) h2, fun h j h1 h2 => h j (by omega) h2⟩
      rw [this]
    · simp [-List.getD_eq_getElem?_getD, -List.length_eq_zero_iff, keepAll, freshHas, pathEq, eqPl_dec, wrap1, wrap0, nbeq, hi, hi2, e]
      exact ⟨i, Nat.le_refl i, hi, e⟩
theorem eqP_spec (a b : List Pl) (ha : a.length ≤ 1048576) : Comes (fun nf _ _ _ => slices_Equal_sapi_Place_api_Place nf (a) (b)) (fun r => r = ((dec (a = b), ()), [])) := by
  by_cases hl : a.length = b.length
  · have l0 := (eqP_l0 a b ha hl false 0 (Nat.zero_le _)).enter
    have : (∀ j, 0 ≤ j → j < a.length → List.getD a j (dft tPlace) = List.getD b j (dft tPlace)) = (a = b) := propext ⟨fun h => ext_getD (dft tPlace) hl (fun j hj => h j (Nat.zero_le j) hj), fun h j _ _ => by rw [h]⟩
    rw [this] at l0
    refine Comes.succ (fun nf _ _ _ => slices_Equal_sapi_Place_api_Place.eq nf _ _) ?_
    simp [-List.getD_eq_getElem?_getD, -List.length_eq_zero_iff, keepAll, freshHas, pathEq, eqPl_dec, wrap1, wrap0, nbeq, hl]
    rw [hl] at l0
    exact l0
  · have e : ¬ a = b := fun e => hl (by rw [e])
    refine Comes.succ (fun nf _ _ _ => slices_Equal_sapi_Place_api_Place.eq nf _ _) ?_
    simp [-List.getD_eq_getElem?_getD, -List.length_eq_zero_iff, keepAll, freshHas, pathEq, eqPl_dec, wrap1, wrap0, nbeq, hl, e, show ¬ (a.length : Int) = (b.length : Int) by omega]
theorem eqB_l0 (a b : List Bool) (ha : a.length ≤ 1048576) (hl : a.length = b.length) (t4 : Bool) : ∀ i, i ≤ a.length → Comes (fun nf fm0 _ _ => slices_Equal_sbool_bool.l0 nf fm0 (a) (b) t4 ((a.length : Int)) ((i : Int))) (fun r => r = ((dec (∀ j, i ≤ j → j < a.length → List.getD a j false = List.getD b j false), ()), [])) := by
  refine upto ?_ (fun i hi next => ?_)
  · refine Comes.succ1 (fun nf fm0 _ _ => slices_Equal_sbool_bool.l0_eq nf fm0 _ _ _ _ _) ?_
    simp [-List.getD_eq_getElem?_getD, -List.length_eq_zero_iff, keepAll, freshHas, pathEq, eqPl_dec, wrap1, wrap0, nbeq]
    intro j h1 h2; omega
  · rw [← wrap_succ (by omega)] at next
    have hi2 : i < b.length := by omega
    refine Comes.succ1 (fun nf fm0 _ _ => slices_Equal_sbool_bool.l0_eq nf fm0 _ _ _ _ _) ?_
    by_cases e : List.getD a i false = List.getD b i false
    · simp [-List.getD_eq_getElem?_getD, -List.length_eq_zero_iff, keepAll, freshHas, pathEq, eqPl_dec, wrap1, wrap0, nbeq, hi, hi2, e]
      refine next.mono (fun v hv => ?_)
      rw [hv]
      have : (∀ j, i + 1 ≤ j → j < a.length → List.getD a j false = List.getD b j false) = (∀ j, i ≤ j → j < a.length → List.getD a j false = List.getD b j false) := propext ⟨fun h j h1 h2 => by
        by_cases hj : j = i
        · subst hj; exact e
        · exact h j (by omega) h2, fun h j h1 h2 => h j (by omega) h2⟩
      rw [this]
    · simp [-List.getD_eq_getElem?_getD, -List.length_eq_zero_iff, keepAll, freshHas, pathEq, eqPl_dec, wrap1, wrap0, nbeq, hi, hi2, e]
      exact ⟨i, Nat.le_refl i, hi, e⟩
theorem eqB_spec (a b : List Bool) (ha : a.length ≤ 1048576) : Comes (fun nf _ _ _ => slices_Equal_sbool_bool nf (a) (b)) (fun r => r = ((dec (a = b), ()), [])) := by
  by_cases hl : a.length = b.length
  · have l0 := (eqB_l0 a b ha hl false 0 (Nat.zero_le _)).enter
    have : (∀ j, 0 ≤ j → j < a.length → List.getD a j false = List.getD b j false) = (a = b) := propext ⟨fun h => ext_getD false hl (fun j hj => h j (Nat.zero_le j) hj), fun h j _ _ => by rw [h]⟩
    rw [this] at l0
    refine Comes.succ (fun nf _ _ _ => slices_Equal_sbool_bool.eq nf _ _) ?_
    simp [-List.getD_eq_getElem?_getD, -List.length_eq_zero_iff, keepAll, freshHas, pathEq, eqPl_dec, wrap1, wrap0, nbeq, hl]
    rw [hl] at l0
    exact l0
  · have e : ¬ a = b := fun e => hl (by rw [e])
    refine Comes.succ (fun nf _ _ _ => slices_Equal_sbool_bool.eq nf _ _) ?_
    simp [-List.getD_eq_getElem?_getD, -List.length_eq_zero_iff, keepAll, freshHas, pathEq, eqPl_dec, wrap1, wrap0, nbeq, hl, e, show ¬ (a.length : Int) = (b.length : Int) by omega]
abbrev rowD : List Int := dft (.arr 4 (.int .i64))
theorem eqRow_dec {x y : List Int} (hx : x.length = 4) (hy : y.length = 4) : eqT (.arr 4 (.int .i64)) x y = dec (x = y) := by
  by_cases h : x = y
  · rw [(eqRow hx hy).2 h, dec_true.2 h]
  · rw [dec_false.2 h]; exact Bool.eq_false_iff.2 (fun e => h ((eqRow hx hy).1 e))
theorem eqR_l0 (a b : List (List Int)) (ha : a.length ≤ 1048576) (hl : a.length = b.length) (ra : ∀ i, i < a.length → List.length (List.getD a i (dft (.arr 4 (.int .i64))) : List Int) = 4) (rb : ∀ i, i < b.length → List.length (List.getD b i (dft (.arr 4 (.int .i64))) : List Int) = 4) (t4 : Bool) : ∀ i, i ≤ a.length → Comes (fun nf fm0 _ _ => slices_Equal_sa4int_a4int.l0 nf fm0 (a) (b) t4 ((a.length : Int)) ((i : Int))) (fun r => r = ((dec (∀ j, i ≤ j → j < a.length → List.getD a j (dft (.arr 4 (.int .i64))) = List.getD b j (dft (.arr 4 (.int .i64)))), ()), [])) := by
  refine upto ?_ (fun i hi next => ?_)
  · refine Comes.succ1 (fun nf fm0 _ _ => slices_Equal_sa4int_a4int.l0_eq nf fm0 _ _ _ _ _) ?_
    simp [-List.getD_eq_getElem?_getD, -List.length_eq_zero_iff, keepAll, freshHas, pathEq, eqPl_dec, wrap1, wrap0, nbeq]
    intro j h1 h2; omega
  · rw [← wrap_succ (by omega)] at next
    have hi2 : i < b.length := by omega
    have he := eqRow_dec (ra i hi) (rb i hi2)
    refine Comes.succ1 (fun nf fm0 _ _ => slices_Equal_sa4int_a4int.l0_eq nf fm0 _ _ _ _ _) ?_
    simp only [Int.toNat_natCast, he]
    by_cases e : List.getD a i (dft (.arr 4 (.int .i64))) = List.getD b i (dft (.arr 4 (.int .i64)))
    · simp [-List.getD_eq_getElem?_getD, -List.length_eq_zero_iff, keepAll, freshHas, pathEq, eqPl_dec, wrap1, wrap0, nbeq, hi, hi2, dec_true.2 e]
      refine next.mono (fun v hv => ?_)
      rw [hv]
      have : (∀ j, i + 1 ≤ j → j < a.length → List.getD a j (dft (.arr 4 (.int .i64))) = List.getD b j (dft (.arr 4 (.int .i64)))) = (∀ j, i ≤ j → j < a.length → List.getD a j (dft (.arr 4 (.int .i64))) = List.getD b j (dft (.arr 4 (.int .i64)))) := propext ⟨fun h j h1 h2 => by
        by_cases hj : j = i
        · subst hj; exact e
        · exact h j (by omega) h2, fun h j h1 h2 => h j (by omega) h2⟩
      rw [this]
    · simp [-List.getD_eq_getElem?_getD, -List.length_eq_zero_iff, keepAll, freshHas, pathEq, eqPl_dec, wrap1, wrap0, nbeq, hi, hi2, dec_false.2 e]
      exact ⟨i, Nat.le_refl i, hi, e⟩
theorem eqR_spec (a b : List (List Int)) (ha : a.length ≤ 1048576) (ra : ∀ i, i < a.length → List.length (List.getD a i (dft (.arr 4 (.int .i64))) : List Int) = 4) (rb : ∀ i, i < b.length → List.length (List.getD b i (dft (.arr 4 (.int .i64))) : List Int) = 4) : Comes (fun nf _ _ _ => slices_Equal_sa4int_a4int nf (a) (b)) (fun r => r = ((dec (a = b), ()), [])) := by
  by_cases hl : a.length = b.length
  · have l0 := (eqR_l0 a b ha hl ra rb false 0 (Nat.zero_le _)).enter
    have : (∀ j, 0 ≤ j → j < a.length → List.getD a j (dft (.arr 4 (.int .i64))) = List.getD b j (dft (.arr 4 (.int .i64)))) = (a = b) := propext ⟨fun h => ext_getD (dft (.arr 4 (.int .i64))) hl (fun j hj => h j (Nat.zero_le j) hj), fun h j _ _ => by rw [h]⟩
    rw [this] at l0
    refine Comes.succ (fun nf _ _ _ => slices_Equal_sa4int_a4int.eq nf _ _) ?_
    simp [-List.getD_eq_getElem?_getD, -List.length_eq_zero_iff, keepAll, freshHas, pathEq, eqPl_dec, wrap1, wrap0, nbeq, hl]
    rw [hl] at l0
    exact l0
  · have e : ¬ a = b := fun e => hl (by rw [e])
    refine Comes.succ (fun nf _ _ _ => slices_Equal_sa4int_a4int.eq nf _ _) ?_
    simp [-List.getD_eq_getElem?_getD, -List.length_eq_zero_iff, keepAll, freshHas, pathEq, eqPl_dec, wrap1, wrap0, nbeq, hl, e, show ¬ (a.length : Int) = (b.length : Int) by omega]
theorem sameD_spec (a b : den tDesc) (ha : SmD a) (hb : SmD b) : Comes (fun nf _ _ _ => desc_sameDesc nf (a) (b)) (fun r => r = ((dec (a = b), ()), [])) := by
  have e : (a = b) = ((a.2.2.2.2.2.1 : Int) = b.2.2.2.2.2.1 ∧ (a.2.2.2.2.2.2.1 : Int) = b.2.2.2.2.2.2.1 ∧ (a.2.2.2.2.2.2.2.1 : Int) = b.2.2.2.2.2.2.2.1 ∧ (a.1 : List (List Int)) = b.1 ∧ (a.2.1 : List Int) = b.2.1 ∧ (a.2.2.1 : List Int) = b.2.2.1 ∧ (a.2.2.2.1 : List Int) = b.2.2.2.1 ∧ (a.2.2.2.2.1 : List Bool) = b.2.2.2.2.1) := propext ⟨fun h => by rw [h]; exact ⟨rfl, rfl, rfl, rfl, rfl, rfl, rfl, rfl⟩, fun ⟨h1, h2, h3, h4, h5, h6, h7, h8⟩ => Prod.ext h4 (Prod.ext h5 (Prod.ext h6 (Prod.ext h7 (Prod.ext h8 (Prod.ext h1 (Prod.ext h2 (Prod.ext h3 rfl)))))))⟩
  obtain ⟨b4, e4, s4⟩ : ∃ x, (x = true) = ((a.1 : List (List Int)) = b.1) ∧ Comes (fun nf _ _ _ => slices_Equal_sa4int_a4int nf (a.1) (b.1)) (fun r => r = ((x, ()), [])) := ⟨_, propext dec_true, eqR_spec a.1 b.1 ha.e ha.rows hb.rows⟩
  obtain ⟨b5, e5, s5⟩ : ∃ x, (x = true) = ((a.2.1 : List Int) = b.2.1) ∧ Comes (fun nf _ _ _ => slices_Equal_sint_int nf (a.2.1) (b.2.1)) (fun r => r = ((x, ()), [])) := ⟨_, propext dec_true, eqI_spec a.2.1 b.2.1 ha.p⟩
  obtain ⟨b6, e6, s6⟩ : ∃ x, (x = true) = ((a.2.2.1 : List Int) = b.2.2.1) ∧ Comes (fun nf _ _ _ => slices_Equal_sint_int nf (a.2.2.1) (b.2.2.1)) (fun r => r = ((x, ()), [])) := ⟨_, propext dec_true, eqI_spec a.2.2.1 b.2.2.1 ha.c⟩
  obtain ⟨b7, e7, s7⟩ : ∃ x, (x = true) = ((a.2.2.2.1 : List Int) = b.2.2.2.1) ∧ Comes (fun nf _ _ _ => slices_Equal_sint_int nf (a.2.2.2.1) (b.2.2.2.1)) (fun r => r = ((x, ()), [])) := ⟨_, propext dec_true, eqI_spec a.2.2.2.1 b.2.2.2.1 ha.i⟩
  obtain ⟨b8, e8, s8⟩ : ∃ x, (x = true) = ((a.2.2.2.2.1 : List Bool) = b.2.2.2.2.1) ∧ Comes (fun nf _ _ _ => slices_Equal_sbool_bool nf (a.2.2.2.2.1) (b.2.2.2.2.1)) (fun r => r = ((x, ()), [])) := ⟨_, propext dec_true, eqB_spec a.2.2.2.2.1 b.2.2.2.2.1 ha.b⟩
  rw [e, ← e4, ← e5, ← e6, ← e7, ← e8]
  refine Comes.succ (fun nf _ _ _ => desc_sameDesc.eq nf _ _) ?_
  by_cases h1 : (a.2.2.2.2.2.1 : Int) = b.2.2.2.2.2.1 <;> by_cases h2 : (a.2.2.2.2.2.2.1 : Int) = b.2.2.2.2.2.2.1 <;> by_cases h3 : (a.2.2.2.2.2.2.2.1 : Int) = b.2.2.2.2.2.2.2.1 <;>
    simp [-List.getD_eq_getElem?_getD, -List.length_eq_zero_iff, keepAll, freshHas, pathEq, eqPl_dec, wrap1, wrap0, nbeq, h1, h2, h3, comes_call (s4), (s4).prop, comes_call (s5), (s5).prop, comes_call (s6), (s6).prop, comes_call (s7), (s7).prop, comes_call (s8), (s8).prop]
  cases b4 <;> cases b5 <;> cases b6 <;> cases b7 <;> cases b8 <;> simp
theorem dsame_spec (a b : den tWorld) (ha : Sm a) (hb : Sm b) : Comes (fun nf _ _ _ => desc_Same nf (a) (b)) (fun r => r = ((dec (a = b), ()), [])) := by
  have e : (a = b) = (a.1 = b.1 ∧ (a.2.1 : List Int) = b.2.1 ∧ (a.2.2.1 : List Int) = b.2.2.1 ∧ (a.2.2.2.1 : List Pl) = b.2.2.2.1) := propext ⟨fun h => by rw [h]; exact ⟨rfl, rfl, rfl, rfl⟩, fun ⟨h1, h2, h3, h4⟩ => Prod.ext h1 (Prod.ext h2 (Prod.ext h3 (Prod.ext h4 rfl)))⟩
  obtain ⟨b4, e4, s4⟩ : ∃ x, (x = true) = (a.1 = b.1) ∧ Comes (fun nf _ _ _ => desc_sameDesc nf (a.1) (b.1)) (fun r => r = ((x, ()), [])) := ⟨_, propext dec_true, sameD_spec a.1 b.1 ha.d hb.d⟩
  obtain ⟨b5, e5, s5⟩ : ∃ x, (x = true) = ((a.2.1 : List Int) = b.2.1) ∧ Comes (fun nf _ _ _ => slices_Equal_sint_int nf (a.2.1) (b.2.1)) (fun r => r = ((x, ()), [])) := ⟨_, propext dec_true, eqI_spec a.2.1 b.2.1 ha.a⟩
  obtain ⟨b6, e6, s6⟩ : ∃ x, (x = true) = ((a.2.2.1 : List Int) = b.2.2.1) ∧ Comes (fun nf _ _ _ => slices_Equal_sint_int nf (a.2.2.1) (b.2.2.1)) (fun r => r = ((x, ()), [])) := ⟨_, propext dec_true, eqI_spec a.2.2.1 b.2.2.1 ha.wc⟩
  obtain ⟨b7, e7, s7⟩ : ∃ x, (x = true) = ((a.2.2.2.1 : List Pl) = b.2.2.2.1) ∧ Comes (fun nf _ _ _ => slices_Equal_sapi_Place_api_Place nf (a.2.2.2.1) (b.2.2.2.1)) (fun r => r = ((x, ()), [])) := ⟨_, propext dec_true, eqP_spec a.2.2.2.1 b.2.2.2.1 ha.wh⟩
  rw [e, ← e4, ← e5, ← e6, ← e7]
  refine Comes.succ (fun nf _ _ _ => desc_Same.eq nf _ _) ?_
  simp [-List.getD_eq_getElem?_getD, -List.length_eq_zero_iff, keepAll, freshHas, pathEq, eqPl_dec, wrap1, wrap0, nbeq, comes_call (s4), (s4).prop, comes_call (s5), (s5).prop, comes_call (s6), (s6).prop, comes_call (s7), (s7).prop]
  cases b4 <;> cases b5 <;> cases b6 <;> cases b7 <;> simp
/-! ### A new world -/
def newPl (l : List Int) : Nat → List Pl
  | 0 => []
  | i + 1 => newPl l i ++ [((0 : Int), (List.getD l i 0 : Int), ())]
theorem newPl_len (l : List Int) : (i : Nat) → (newPl l i).length = i
  | 0 => rfl
  | i + 1 => by simp only [newPl, List.length_append, newPl_len l i]; rfl
theorem newPl_at (l : List Int) : (i k : Nat) → k < i → List.getD (newPl l i) k (dft tPlace) = ((0 : Int), (List.getD l k 0 : Int), ())
  | 0, k, h => by omega
  | i + 1, k, h => by
    simp only [newPl]
    have hl := newPl_len l i
    rw [List.getD_eq_getElem?_getD]
    by_cases hk : k < i
    · rw [List.getElem?_append_left (by omega), ← List.getD_eq_getElem?_getD]
      exact newPl_at l i k hk
    · obtain rfl : k = i := by omega
      rw [List.getElem?_append_right (by omega), hl, Nat.sub_self]
      rfl
def newW (d : den tDesc) : den tWorld := (d, d.2.1, d.2.2.1, newPl d.2.2.2.1 (List.length (d.2.2.2.1 : List Int)), ())
def zeroW : den tWorld := ((([] : List (List Int)), ([] : List Int), ([] : List Int), ([] : List Int), ([] : List Bool), 0, 0, 0, ()), ([] : List Int), ([] : List Int), ([] : List Pl), ())
theorem dnew_l0 (d : den tDesc) (hs : SmD d) (t0 : (den tDesc)) (t3 : Int) (o0 : (den tDesc)) (o1 : (den tWorld)) : ∀ i, i ≤ List.length (d.2.2.2.1 : List Int) → Comes (fun nf fm0 _ _ => desc_New.l0 nf fm0 t0 t3 (d.2.2.2.1) ((List.length (d.2.2.2.1 : List Int) : Int)) ((i : Int)) o0 o1 ((d, ([] : List Int), ([] : List Int), ([] : List (den tPlace)), ())) (newPl d.2.2.2.1 i) (d.2.1) (d.2.2.1)) (fun r => r = ((newW d, 0, ()), [(0, [1]), (0, [2]), (0, [3])])) := by
  have hi1 := hs.i
  refine upto ?_ (fun i hi next => ?_)
  · refine Comes.succ1 (fun nf fm0 _ _ => desc_New.l0_eq nf fm0 _ _ _ _ _ _ _ _ _ _ _) ?_
    simp [-List.getD_eq_getElem?_getD, -List.length_eq_zero_iff, keepAll, freshHas, pathEq, eqPl_dec, wrap1, wrap0, nbeq, newW]
  · have hl := newPl_len d.2.2.2.1 i
    rw [← wrap_succ (by omega)] at next
    refine Comes.succ1 (fun nf fm0 _ _ => desc_New.l0_eq nf fm0 _ _ _ _ _ _ _ _ _ _ _) ?_
    simp [-List.getD_eq_getElem?_getD, -List.length_eq_zero_iff, keepAll, freshHas, pathEq, eqPl_dec, wrap1, wrap0, nbeq, hi, hl]
    exact ⟨by omega, next⟩
theorem dnew_spec (d : den tDesc) (hs : SmD d) (m : MayP d) : Comes (fun nf _ _ _ => desc_New nf (d)) (fun r => r = ((newW d, 0, ()), [(0, [1]), (0, [2]), (0, [3])])) := by
  have l0 := fun (t0 t3 o0 o1) => (dnew_l0 d hs t0 t3 o0 o1 0 (Nat.zero_le _)).enter
  refine Comes.succ (fun nf _ _ _ => desc_New.eq nf _) ?_
  simp [-List.getD_eq_getElem?_getD, -List.length_eq_zero_iff, keepAll, freshHas, pathEq, eqPl_dec, wrap1, wrap0, nbeq, comes_call (dmay_spec d hs), (dmay_spec d hs).prop, m, comes_call (cloneI_spec d.2.1 hs.p), (cloneI_spec d.2.1 hs.p).prop, comes_call (cloneI_spec d.2.2.1 hs.c), (cloneI_spec d.2.2.1 hs.c).prop]
  exact l0 _ _ _ _
theorem dnew_no (d : den tDesc) (hs : SmD d) (m : ¬ MayP d) : Comes (fun nf _ _ _ => desc_New nf (d)) (fun r => r = ((zeroW, 1, ()), [(0, [1]), (0, [2]), (0, [3])])) := by
  refine Comes.succ (fun nf _ _ _ => desc_New.eq nf _) ?_
  simp [-List.getD_eq_getElem?_getD, -List.length_eq_zero_iff, keepAll, freshHas, pathEq, eqPl_dec, wrap1, wrap0, nbeq, comes_call (dmay_spec d hs), (dmay_spec d hs).prop, m, zeroW]
theorem rnew_l0 (d : den tDesc) (hs : SmD d) (t0 : (den tDesc)) (o1 : (den tWorld)) : ∀ i, i ≤ List.length (d.2.2.2.1 : List Int) → Comes (fun nf fm0 _ _ => innkeepref06_New.l0 nf fm0 t0 ((i : Int)) (d) o1 ((d, ([] : List Int), ([] : List Int), ([] : List (den tPlace)), ())) (d.2.1) (d.2.2.1) (newPl d.2.2.2.1 i)) (fun r => r.1 = (newW d, ())) := by
  have hi1 := hs.i
  refine upto ?_ (fun i hi next => ?_)
  · refine Comes.succ1 (fun nf fm0 _ _ => innkeepref06_New.l0_eq nf fm0 _ _ _ _ _ _ _ _) ?_
    simp [-List.getD_eq_getElem?_getD, -List.length_eq_zero_iff, keepAll, freshHas, pathEq, eqPl_dec, wrap1, wrap0, nbeq, newW]
  · have hl := newPl_len d.2.2.2.1 i
    rw [← wrap_succ (by omega)] at next
    refine Comes.succ1 (fun nf fm0 _ _ => innkeepref06_New.l0_eq nf fm0 _ _ _ _ _ _ _ _) ?_
    simp [-List.getD_eq_getElem?_getD, -List.length_eq_zero_iff, keepAll, freshHas, pathEq, eqPl_dec, wrap1, wrap0, nbeq, hi, hl]
    exact ⟨by omega, next⟩
theorem rnew_spec (d : den tDesc) (hs : SmD d) : Comes (fun nf _ _ _ => innkeepref06_New nf (d)) (fun r => r.1 = (newW d, ())) := by
  have l0 := fun (t0 o1) => (rnew_l0 d hs t0 o1 0 (Nat.zero_le _)).enter
  refine Comes.succ (fun nf _ _ _ => innkeepref06_New.eq nf _) ?_
  simp [-List.getD_eq_getElem?_getD, -List.length_eq_zero_iff, keepAll, freshHas, pathEq, eqPl_dec, wrap1, wrap0, nbeq]
  exact ⟨hs.p, hs.c, l0 _ _⟩
end Go.Proofs.Ytkjcmjfdkmnikaa.Ghost
