/- What functions come to, and that the statements are answered with 'true'. Conditions: none. -/
import Derived.Test.YtapeeipnjpihcaaDoorS
import Derived.Test.YtapeeipnjpihcaaDoorGE
set_option linter.unusedVariables false
set_option linter.unusedSimpArgs false
set_option linter.unusedSectionVars false
set_option linter.unnecessarySimpa false
namespace Go.Proofs.YtapeeipnjpihcaaDoor.Ghost
open Go
theorem eqPl_dec : (0 : Nat) + 0 = 0 := rfl
theorem wrap_one {a : Nat} (h : a < 9223372036854775807) : IntKind.wrap .i64 ((a : Int) + 1) = (a : Int) + 1 := wrap_id (by omega) (by omega)
theorem nbeq (a b : Nat) : Nat.beq a b = decide (a = b) := by
  by_cases h : a = b
  · rw [decide_eq_true h, h]; exact Nat.beq_refl b
  · rw [decide_eq_false h]; exact Bool.eq_false_iff.2 (fun e => h (Nat.eq_of_beq_eq_true e))
theorem wrap1 : IntKind.wrap .i64 1 = 1 := by decide
theorem wrap0 : IntKind.wrap .i64 0 = 0 := by decide
theorem ext_getD {α : Type} (d : α) {a b : List α} (hl : a.length = b.length) (h : ∀ i, i < a.length → a.getD i d = b.getD i d) : a = b := by
  refine List.ext_getElem hl (fun i h1 h2 => ?_)
  have := h i h1
  rw [List.getD_eq_getElem?_getD, List.getD_eq_getElem?_getD, List.getElem?_eq_getElem h1, List.getElem?_eq_getElem h2] at this
  exact this
theorem getD_set {α : Type} (l : List α) (i j : Nat) (x d : α) (h : i < l.length) : (l.set i x).getD j d = if j = i then x else l.getD j d := by
  rw [List.getD_eq_getElem?_getD, List.getD_eq_getElem?_getD, List.getElem?_set]
  by_cases e : i = j
  · rw [if_pos e, if_pos e.symm, if_pos h]; rfl
  · rw [if_neg e, if_neg (fun h => e h.symm)]
theorem eqI_l0 (a b : List Int) (ha : a.length ≤ 1048576) (hl : a.length = b.length) (t4 : Bool) : ∀ i, i ≤ a.length → Comes (fun nf fm0 _ _ => slices_Equal_sint_int.l0 nf fm0 (a) (b) t4 ((a.length : Int)) ((i : Int))) (fun r => r = ((dec (∀ j, i ≤ j → j < a.length → List.getD a j 0 = List.getD b j 0), ()), [])) := by
  refine upto ?_ (fun i hi next => ?_)
  · refine Comes.succ1 (fun nf fm0 _ _ => slices_Equal_sint_int.l0_eq nf fm0 _ _ _ _ _) ?_
    simp [-List.getD_eq_getElem?_getD, -List.length_eq_zero_iff, keepAll, freshHas, pathEq, eqPl_dec, wrap1, wrap0, nbeq]
    intro j h1 h2; omega
  · rw [← wrap_succ (by omega)] at next
    have hi2 : i < b.length := by omega
    refine Comes.succ1 (fun nf fm0 _ _ => slices_Equal_sint_int.l0_eq nf fm0 _ _ _ _ _) ?_
    by_cases e : List.getD a i 0 = List.getD b i 0
    · simp [-List.getD_eq_getElem?_getD, -List.length_eq_zero_iff, keepAll, freshHas, pathEq, eqPl_dec, wrap1, wrap0, nbeq, hi, hi2, e]
      refine next.mono (fun v hv => ?_)
      rw [hv]
      have : (∀ j, i + 1 ≤ j → j < a.length → List.getD a j 0 = List.getD b j 0) = (∀ j, i ≤ j → j < a.length → List.getD a j 0 = List.getD b j 0) := propext ⟨fun h j h1 h2 => by
        by_cases hj : j = i
        · subst hj; exact e
        · exact h j (by omega) h2, fun h j h1 h2 => h j (by omega) h2⟩
      rw [this]
    · simp [-List.getD_eq_getElem?_getD, -List.length_eq_zero_iff, keepAll, freshHas, pathEq, eqPl_dec, wrap1, wrap0, nbeq, hi, hi2, e]
      exact ⟨i, Nat.le_refl i, hi, e⟩
theorem eqI_spec (a b : List Int) (ha : a.length ≤ 1048576) : Comes (fun nf _ _ _ => slices_Equal_sint_int nf (a) (b)) (fun r => r = ((dec (a = b), ()), [])) := by
  by_cases hl : a.length = b.length
  · have l0 := (eqI_l0 a b ha hl false 0 (Nat.zero_le _)).enter
    have : (∀ j, 0 ≤ j → j < a.length → List.getD a j 0 = List.getD b j 0) = (a = b) := propext ⟨fun h => ext_getD 0 hl (fun j hj => h j (Nat.zero_le j) hj), fun h j _ _ => by rw [h]⟩
    rw [this] at l0
    refine Comes.succ (fun nf _ _ _ => slices_Equal_sint_int.eq nf _ _) ?_
    simp [-List.getD_eq_getElem?_getD, -List.length_eq_zero_iff, keepAll, freshHas, pathEq, eqPl_dec, wrap1, wrap0, nbeq, hl]
    rw [hl] at l0
    exact l0
  · have e : ¬ a = b := fun e => hl (by rw [e])
    refine Comes.succ (fun nf _ _ _ => slices_Equal_sint_int.eq nf _ _) ?_
    simp [-List.getD_eq_getElem?_getD, -List.length_eq_zero_iff, keepAll, freshHas, pathEq, eqPl_dec, wrap1, wrap0, nbeq, hl, e, show ¬ (a.length : Int) = (b.length : Int) by omega]
theorem ints_l0 (a b : List Int) (ha : a.length ≤ 1048576) (hl : a.length = b.length) (t4 : Bool) : ∀ i, i ≤ a.length → Comes (fun nf fm0 _ _ => innkeepref03_Ints.l0 nf fm0 (a) (b) t4 ((i : Int))) (fun r => r = ((dec (∀ j, i ≤ j → j < a.length → List.getD a j 0 = List.getD b j 0), ()), [])) := by
  refine upto ?_ (fun i hi next => ?_)
  · refine Comes.succ1 (fun nf fm0 _ _ => innkeepref03_Ints.l0_eq nf fm0 _ _ _ _) ?_
    simp [-List.getD_eq_getElem?_getD, -List.length_eq_zero_iff, keepAll, freshHas, pathEq, eqPl_dec, wrap1, wrap0, nbeq]
    intro j h1 h2; omega
  · rw [← wrap_succ (by omega)] at next
    have hi2 : i < b.length := by omega
    refine Comes.succ1 (fun nf fm0 _ _ => innkeepref03_Ints.l0_eq nf fm0 _ _ _ _) ?_
    by_cases e : List.getD a i 0 = List.getD b i 0
    · simp [-List.getD_eq_getElem?_getD, -List.length_eq_zero_iff, keepAll, freshHas, pathEq, eqPl_dec, wrap1, wrap0, nbeq, hi, hi2, e]
      refine next.mono (fun v hv => ?_)
      rw [hv]
      have : (∀ j, i + 1 ≤ j → j < a.length → List.getD a j 0 = List.getD b j 0) = (∀ j, i ≤ j → j < a.length → List.getD a j 0 = List.getD b j 0) := propext ⟨fun h j h1 h2 => by
        by_cases hj : j = i
        · subst hj; exact e
        · exact h j (by omega) h2, fun h j h1 h2 => h j (by omega) h2⟩
      rw [this]
    · simp [-List.getD_eq_getElem?_getD, -List.length_eq_zero_iff, keepAll, freshHas, pathEq, eqPl_dec, wrap1, wrap0, nbeq, hi, hi2, e]
      exact ⟨i, Nat.le_refl i, hi, e⟩
theorem ints_spec (a b : List Int) (ha : a.length ≤ 1048576) : Comes (fun nf _ _ _ => innkeepref03_Ints nf (a) (b)) (fun r => r = ((dec (a = b), ()), [])) := by
  by_cases hl : a.length = b.length
  · have l0 := (ints_l0 a b ha hl false 0 (Nat.zero_le _)).enter
    have : (∀ j, 0 ≤ j → j < a.length → List.getD a j 0 = List.getD b j 0) = (a = b) := propext ⟨fun h => ext_getD 0 hl (fun j hj => h j (Nat.zero_le j) hj), fun h j _ _ => by rw [h]⟩
    rw [this] at l0
    refine Comes.succ (fun nf _ _ _ => innkeepref03_Ints.eq nf _ _) ?_
    simp [-List.getD_eq_getElem?_getD, -List.length_eq_zero_iff, keepAll, freshHas, pathEq, eqPl_dec, wrap1, wrap0, nbeq, hl]
    exact l0
  · have e : ¬ a = b := fun e => hl (by rw [e])
    refine Comes.succ (fun nf _ _ _ => innkeepref03_Ints.eq nf _ _) ?_
    simp [-List.getD_eq_getElem?_getD, -List.length_eq_zero_iff, keepAll, freshHas, pathEq, eqPl_dec, wrap1, wrap0, nbeq, hl, e, show ¬ (a.length : Int) = (b.length : Int) by omega]
end Go.Proofs.YtapeeipnjpihcaaDoor.Ghost
