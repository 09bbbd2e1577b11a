/- What functions come to, and that the statements are answered with 'true'. Conditions: none. -/
import Derived.Test.YtobegmljkfphjaaS
import Derived.Test.YtobegmljkfphjaaGE
import Derived.Test.YtobegmljkfphjaaP1
import Derived.Test.YtobegmljkfphjaaP2
set_option linter.unusedVariables false
set_option linter.unusedSimpArgs false
set_option linter.unusedSectionVars false
set_option linter.unnecessarySimpa false
namespace Go.Proofs.Ytobegmljkfphjaa.Ghost
open Go
theorem awake14 : Comes (fun nf _ _ _ => innkeeplaw14_awake nf) (fun r => r.1.1 = true) := Comes.one 60 (r := ((true, ()), [])) (by kernel_rfl) rfl
theorem eqb (x : Bool) : eqT .bool x x = true := by cases x <;> rfl
theorem keysSort_true (l : List (den tKey)) (a b : den tKey) (_ : wfD (.sl tKey) l) (_ : wfD tKey a) (_ : wfD tKey b) : Comes (fun nf _ _ _ => innkeeplaw14_KeysSort nf (l) (a) (b)) (fun r => r.1.1 = true) := by
  refine Comes.succ (fun nf _ _ _ => innkeeplaw14_KeysSort.eq nf _ _ _) ?_
  by_cases h : 60 < (l.length : Int)
  · simp [-List.getD_eq_getElem?_getD, -List.length_eq_zero_iff, keepAll, freshHas, pathEq, eqPl_dec, wrap1, wrap0, nbeq, comes_call (awake14), (awake14).prop, h]
  · have hl : l.length ≤ 1048576 := by omega
    have hs : (kSort l).length ≤ 1048576 := Nat.le_trans (kSort_length l) hl
    simp [-List.getD_eq_getElem?_getD, -List.length_eq_zero_iff, keepAll, freshHas, pathEq, eqPl_dec, wrap1, wrap0, nbeq, comes_call (awake14), (awake14).prop, h, comes_call (kless_spec a b), (kless_spec a b).prop, comes_call (rless_spec a b), (rless_spec a b).prop, eqb, comes_call (ksort_spec l hl), (ksort_spec l hl).prop, comes_call (rsort_spec l hl), (rsort_spec l hl).prop, comes_call (rsame_spec (kSort l) (kSort l) hs), (rsame_spec (kSort l) (kSort l) hs).prop]
theorem kkeep_l0 (l : List (den tKey)) (hl : l.length ≤ 1048576) (t2 : Bool) (len : Nat) (hlen : len ≤ 1048576) : ∀ i, i ≤ len → ∀ o2 : List (den tKey), o2.length = len → Comes (fun nf fm0 _ _ => innkeeplaw14_KeysKeep.l0 nf fm0 (l) t2 ((i : Int)) (l) (o2)) (fun r => r.1.1 = true) := by
  refine upto ?_ (fun i hi next => ?_)
  · intro o2 h2
    refine Comes.succ1 (fun nf fm0 _ _ => innkeeplaw14_KeysKeep.l0_eq nf fm0 _ _ _ _ _) ?_
    simp [-List.getD_eq_getElem?_getD, -List.length_eq_zero_iff, keepAll, freshHas, pathEq, eqPl_dec, wrap1, wrap0, nbeq, h2, comes_call (rsame_spec l l hl), (rsame_spec l l hl).prop]
  · intro o2 h2
    rw [← wrap_succ (by omega)] at next
    refine Comes.succ1 (fun nf fm0 _ _ => innkeeplaw14_KeysKeep.l0_eq nf fm0 _ _ _ _ _) ?_
    simp [-List.getD_eq_getElem?_getD, -List.length_eq_zero_iff, keepAll, freshHas, pathEq, eqPl_dec, wrap1, wrap0, nbeq, h2, hi]
    exact next _ (by rw [List.length_set]; exact h2)
theorem keysKeep_true (l : List (den tKey)) (_ : wfD (.sl tKey) l) : Comes (fun nf _ _ _ => innkeeplaw14_KeysKeep nf (l)) (fun r => r.1.1 = true) := by
  refine Comes.succ (fun nf _ _ _ => innkeeplaw14_KeysKeep.eq nf _) ?_
  by_cases h : 60 < (l.length : Int)
  · simp [-List.getD_eq_getElem?_getD, -List.length_eq_zero_iff, keepAll, freshHas, pathEq, eqPl_dec, wrap1, wrap0, nbeq, comes_call (awake14), (awake14).prop, h]
  · have hl : l.length ≤ 1048576 := by omega
    have hs : (kSort l).length ≤ 1048576 := Nat.le_trans (kSort_length l) hl
    have l0 := (kkeep_l0 l hl false (kSort l).length hs 0 (Nat.zero_le _) (kSort l) rfl).enter
    simp only [List.nil_append, Nat.zero_add]
    simp [-List.getD_eq_getElem?_getD, -List.length_eq_zero_iff, keepAll, freshHas, pathEq, eqPl_dec, wrap1, wrap0, nbeq, comes_call (awake14), (awake14).prop, h, hl, comes_call (ksort_spec l hl), (ksort_spec l hl).prop]
    exact l0
theorem keysFrom_true (a b c : den tKey) (_ : wfD tKey a) (_ : wfD tKey b) (_ : wfD tKey c) : Comes (fun nf _ _ _ => innkeeplaw14_KeysFrom nf (a) (b) (c)) (fun r => r.1.1 = true) := by
  have hl : [a, b, c].length ≤ 1048576 := by show 3 ≤ 1048576; decide
  have ma : a ∈ kSort [a, b, c] := mem_kSort.2 List.mem_cons_self
  have mb : b ∈ kSort [a, b, c] := mem_kSort.2 (List.mem_cons_of_mem _ List.mem_cons_self)
  have mc : c ∈ kSort [a, b, c] := mem_kSort.2 (List.mem_cons_of_mem _ (List.mem_cons_of_mem _ List.mem_cons_self))
  have n1 : 0 < (kSort [a, b, c]).length := List.length_pos_of_mem ma
  have n3 : (kSort [a, b, c]).length ≤ 3 := kSort_length [a, b, c]
  obtain ⟨hd, hh⟩ : ∃ hd, hd = List.getD (kSort [a, b, c]) 0 (dft tKey) := ⟨_, rfl⟩
  have least : ∀ x, x ∈ kSort [a, b, c] → kLt x hd = false := by
    intro x hx
    have hs := asc_kSort [a, b, c]
    cases hk : kSort [a, b, c] with
    | nil => rw [hk] at n1; exact absurd n1 (Nat.lt_irrefl 0)
    | cons y r =>
      rw [hk] at hs hx hh
      have e : hd = y := hh
      rw [e]
      rcases List.mem_cons.1 hx with rfl | hx
      · exact Bool.eq_false_iff.2 (kLt_irrefl _)
      · exact Bool.eq_false_iff.2 (kLt_asymm ((List.pairwise_cons.1 hs).1 x hx))
  have la := least a ma
  have lb := least b mb
  have lc := least c mc
  have one : ((kSort [a, b, c]).length : Int) = 1 ↔ a = b ∧ b = c := by
    constructor
    · intro h
      have h1 : (kSort [a, b, c]).length = 1 := by omega
      obtain ⟨y, hy⟩ := List.length_eq_one_iff.1 h1
      rw [hy] at ma mb mc
      rw [List.mem_singleton] at ma mb mc
      exact ⟨ma.trans mb.symm, mb.trans mc.symm⟩
    · rintro ⟨rfl, rfl⟩
      have : kSort [a, a, a] = [a] := (kSort_uniq (List.pairwise_singleton _ _) (fun x => by simp)).symm
      rw [this]; rfl
  have ia : kLt a a = false := Bool.eq_false_iff.2 (kLt_irrefl a)
  have d1 : decide ((1 : Int) ≤ ((kSort [a, b, c]).length : Int)) = true := decide_eq_true (by omega)
  have d3 : decide (((kSort [a, b, c]).length : Int) ≤ 3) = true := decide_eq_true (by omega)
  have dc : ((0 : Int) ≤ 0 ∧ (0 : Int) < ((kSort [a, b, c]).length : Int)) = True := eq_true ⟨by omega, by omega⟩
  refine Comes.succ (fun nf _ _ _ => innkeeplaw14_KeysFrom.eq nf _ _ _) ?_
  by_cases hab : kLt a b = true
  · have hba : kLt b a = false := Bool.eq_false_iff.2 (kLt_asymm hab)
    have ne : ¬ a = b := fun e => by rw [e] at hab; exact kLt_irrefl b hab
    have dl : decide (((kSort [a, b, c]).length : Int) = 1) = false := decide_eq_false (fun h => ne (one.1 h).1)
    by_cases hbc : kLt b c = true
    · have hac := kLt_trans hab hbc
      simp only [comes_call (awake14), (awake14).prop, comes_call (kless_spec a a), (kless_spec a a).prop, comes_call (kless_spec a b), (kless_spec a b).prop, comes_call (kless_spec b a), (kless_spec b a).prop, comes_call (kless_spec b c), (kless_spec b c).prop, comes_call (kless_spec a c), (kless_spec a c).prop, comes_call (kless_spec a hd), (kless_spec a hd).prop, comes_call (kless_spec b hd), (kless_spec b hd).prop, comes_call (kless_spec c hd), (kless_spec c hd).prop, comes_call (ksort_spec [a, b, c] hl), (ksort_spec [a, b, c] hl).prop, ← hh, la, lb, lc, ia, eqKey_dec, d1, d3, dc, if_true, eqb, Bool.not_true, Bool.not_false, cond_true, cond_false, comes_ret, hab, hba, hbc, hac, dec_false.2 ne, dl]
    · have hbc' := Bool.eq_false_iff.2 hbc
      simp only [comes_call (awake14), (awake14).prop, comes_call (kless_spec a a), (kless_spec a a).prop, comes_call (kless_spec a b), (kless_spec a b).prop, comes_call (kless_spec b a), (kless_spec b a).prop, comes_call (kless_spec b c), (kless_spec b c).prop, comes_call (kless_spec a c), (kless_spec a c).prop, comes_call (kless_spec a hd), (kless_spec a hd).prop, comes_call (kless_spec b hd), (kless_spec b hd).prop, comes_call (kless_spec c hd), (kless_spec c hd).prop, comes_call (ksort_spec [a, b, c] hl), (ksort_spec [a, b, c] hl).prop, ← hh, la, lb, lc, ia, eqKey_dec, d1, d3, dc, if_true, eqb, Bool.not_true, Bool.not_false, cond_true, cond_false, comes_ret, hab, hba, hbc', dec_false.2 ne, dl]
  · have hab' := Bool.eq_false_iff.2 hab
    by_cases hba : kLt b a = true
    · have ne : ¬ a = b := fun e => by rw [e] at hba; exact kLt_irrefl b hba
      have dl : decide (((kSort [a, b, c]).length : Int) = 1) = false := decide_eq_false (fun h => ne (one.1 h).1)
      simp only [comes_call (awake14), (awake14).prop, comes_call (kless_spec a a), (kless_spec a a).prop, comes_call (kless_spec a b), (kless_spec a b).prop, comes_call (kless_spec b a), (kless_spec b a).prop, comes_call (kless_spec b c), (kless_spec b c).prop, comes_call (kless_spec a c), (kless_spec a c).prop, comes_call (kless_spec a hd), (kless_spec a hd).prop, comes_call (kless_spec b hd), (kless_spec b hd).prop, comes_call (kless_spec c hd), (kless_spec c hd).prop, comes_call (ksort_spec [a, b, c] hl), (ksort_spec [a, b, c] hl).prop, ← hh, la, lb, lc, ia, eqKey_dec, d1, d3, dc, if_true, eqb, Bool.not_true, Bool.not_false, cond_true, cond_false, comes_ret, hab', hba, dec_false.2 ne, dl]
    · have e := kLt_total hab hba
      have dl : decide (((kSort [a, b, c]).length : Int) = 1) = dec (b = c) := by
        rw [Bool.eq_iff_iff, dec_true, decide_eq_true_eq, one]
        exact ⟨fun h => h.2, fun h => ⟨e, h⟩⟩
      simp only [comes_call (awake14), (awake14).prop, comes_call (kless_spec a a), (kless_spec a a).prop, comes_call (kless_spec a b), (kless_spec a b).prop, comes_call (kless_spec b a), (kless_spec b a).prop, comes_call (kless_spec b c), (kless_spec b c).prop, comes_call (kless_spec a c), (kless_spec a c).prop, comes_call (kless_spec a hd), (kless_spec a hd).prop, comes_call (kless_spec b hd), (kless_spec b hd).prop, comes_call (kless_spec c hd), (kless_spec c hd).prop, comes_call (ksort_spec [a, b, c] hl), (ksort_spec [a, b, c] hl).prop, ← hh, la, lb, lc, ia, eqKey_dec, d1, d3, dc, if_true, eqb, Bool.not_true, Bool.not_false, cond_true, cond_false, comes_ret, hab', dec_true.2 e, dl]
end Go.Proofs.Ytobegmljkfphjaa.Ghost
