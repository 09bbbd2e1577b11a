/- What functions come to, and that the statements are answered with 'true'. Conditions: none. -/
import Derived.Test.YtapeeipnjpihcaaDoorS
import Derived.Test.YtapeeipnjpihcaaDoorGE
import Derived.Test.YtapeeipnjpihcaaDoorP1
import Derived.Test.YtapeeipnjpihcaaDoorP2
import Derived.Test.YtapeeipnjpihcaaDoorP3
import Derived.Test.YtapeeipnjpihcaaDoorP4
import Derived.Test.YtapeeipnjpihcaaDoorP5
set_option linter.unusedVariables false
set_option linter.unusedSimpArgs false
set_option linter.unusedSectionVars false
set_option linter.unnecessarySimpa false
namespace Go.Proofs.YtapeeipnjpihcaaDoor.Ghost
open Go
theorem eqStr_dec (a b : ByteArray) : eqT .str a b = dec (a = b) := by
  rw [Bool.eq_iff_iff, dec_true]
  show (a == b) = true ↔ a = b
  obtain ⟨x⟩ := a
  obtain ⟨y⟩ := b
  constructor
  · intro h
    have e : x = y := by simpa using (show (x == y) = true from h)
    rw [e]
  · intro h
    cases h
    show (x == x) = true
    simp
/-- the number of a name: the first that has it -/
def numOf (l : List ByteArray) (s : ByteArray) (k : Nat) : Prop := k < l.length ∧ List.getD l k (dft .str) = s ∧ ∀ j, j < k → ¬ List.getD l j (dft .str) = s
theorem index_l0 (l : List ByteArray) (s : ByteArray) (hl : l.length ≤ 1048576) (t4 : Int) : ∀ i, i ≤ l.length → (∀ j, j < i → ¬ List.getD l j (dft .str) = s) → Comes (fun nf fm0 _ _ => slices_Index_sstring_string.l0 nf fm0 (l) (s) t4 ((l.length : Int)) ((i : Int))) (fun r => r.2 = [] ∧ ((∃ k : Nat, r.1.1 = (k : Int) ∧ numOf l s k) ∨ (r.1.1 = -1 ∧ ∀ j, j < l.length → ¬ List.getD l j (dft .str) = s))) := by
  refine upto (fun hp => ?_) (fun i hi next hp => ?_)
  · refine Comes.succ1 (fun nf fm0 _ _ => slices_Index_sstring_string.l0_eq nf fm0 _ _ _ _ _) ?_
    simp [-List.getD_eq_getElem?_getD, -List.length_eq_zero_iff, keepAll, freshHas, pathEq, eqPl_dec, wrap1, wrap0, nbeq]
    exact hp
  · refine Comes.succ1 (fun nf fm0 _ _ => slices_Index_sstring_string.l0_eq nf fm0 _ _ _ _ _) ?_
    simp only [Int.toNat_natCast, eqStr_dec]
    by_cases e : s = List.getD l i (dft .str)
    · simp [-List.getD_eq_getElem?_getD, -List.length_eq_zero_iff, keepAll, freshHas, pathEq, eqPl_dec, wrap1, wrap0, nbeq, hi, dec_true.2 e]
      exact ⟨i, rfl, hi, e.symm, hp⟩
    · have next := next (fun j hj => by
        by_cases hji : j = i
        · subst hji; exact fun h => e h.symm
        · exact hp j (by omega))
      rw [← wrap_succ (by omega)] at next
      simp [-List.getD_eq_getElem?_getD, -List.length_eq_zero_iff, keepAll, freshHas, pathEq, eqPl_dec, wrap1, wrap0, nbeq, hi, dec_false.2 e]
      exact next
theorem number_spec (l : List ByteArray) (s : ByteArray) (hl : l.length ≤ 1048576) : Comes (fun nf _ _ _ => cmd_number nf (l) (s)) (fun r => (∃ k : Nat, ¬ s = (⟨#[]⟩ : ByteArray) ∧ numOf l s k ∧ r.1 = ((k : Int), true, ())) ∨ ((s = (⟨#[]⟩ : ByteArray) ∨ ∀ j, j < l.length → ¬ List.getD l j (dft .str) = s) ∧ r.1 = (0, false, ()))) := by
  have h1 : Comes (fun nf _ _ _ => slices_Index_sstring_string nf (l) (s)) (fun r => r.2 = [] ∧ ((∃ k : Nat, r.1.1 = (k : Int) ∧ numOf l s k) ∨ (r.1.1 = -1 ∧ ∀ j, j < l.length → ¬ List.getD l j (dft .str) = s))) := by
    refine Comes.succ (fun nf _ _ _ => slices_Index_sstring_string.eq nf _ _) ?_
    exact (index_l0 l s hl _ 0 (Nat.zero_le _) (fun j hj => by omega)).enter
  refine Comes.succ (fun nf _ _ _ => cmd_number.eq nf _ _) ?_
  refine Comes.call h1 (fun v hv => ?_)
  rw [eqStr_dec]
  by_cases e : s = (⟨#[]⟩ : ByteArray)
  · simp only [dec_true.2 e, cond_true, comes_ret]
    exact .inr ⟨.inl e, trivial⟩
  · simp only [dec_false.2 e, cond_false]
    rcases hv.2 with ⟨k, g1, g2⟩ | ⟨g1, g2⟩
    · rw [g1]
      simp [-List.getD_eq_getElem?_getD, -List.length_eq_zero_iff, keepAll, freshHas, pathEq, eqPl_dec, wrap1, wrap0, nbeq]
      exact ⟨fun h => absurd h (Int.not_lt.2 (Int.natCast_nonneg k)), e, k, g2, rfl⟩
    · rw [g1]
      simp [-List.getD_eq_getElem?_getD, -List.length_eq_zero_iff, keepAll, freshHas, pathEq, eqPl_dec, wrap1, wrap0, nbeq]
      exact .inr g2
end Go.Proofs.YtapeeipnjpihcaaDoor.Ghost
