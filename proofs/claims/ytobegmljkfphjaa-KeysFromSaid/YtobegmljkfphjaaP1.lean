/- What functions come to, and that the statements are answered with 'true'. Conditions: none. -/
import Derived.Test.YtobegmljkfphjaaS
import Derived.Test.YtobegmljkfphjaaGE
set_option linter.unusedVariables false
set_option linter.unusedSimpArgs false
set_option linter.unusedSectionVars false
set_option linter.unnecessarySimpa false
namespace Go.Proofs.Ytobegmljkfphjaa.Ghost
open Go
theorem eqPl_dec : (0 : Nat) + 0 = 0 := rfl
theorem wrap_one {a : Nat} (h : a < 9223372036854775807) : IntKind.wrap .i64 ((a : Int) + 1) = (a : Int) + 1 := wrap_id (by omega) (by omega)
theorem nbeq (a b : Nat) : Nat.beq a b = decide (a = b) := by
  by_cases h : a = b
  · rw [decide_eq_true h, h]; exact Nat.beq_refl b
  · rw [decide_eq_false h]; exact Bool.eq_false_iff.2 (fun e => h (Nat.eq_of_beq_eq_true e))
theorem wrap1 : IntKind.wrap .i64 1 = 1 := by decide
theorem wrap0 : IntKind.wrap .i64 0 = 0 := by decide
theorem ext_getD {α : Type} (d : α) {a b : List α} (hl : a.length = b.length) (h : ∀ i, i < a.length → a.getD i d = b.getD i d) : a = b := by
  refine List.ext_getElem hl (fun i h1 h2 => ?_)
  have := h i h1
  rw [List.getD_eq_getElem?_getD, List.getD_eq_getElem?_getD, List.getElem?_eq_getElem h1, List.getElem?_eq_getElem h2] at this
  exact this
theorem getD_set {α : Type} (l : List α) (i j : Nat) (x d : α) (h : i < l.length) : (l.set i x).getD j d = if j = i then x else l.getD j d := by
  rw [List.getD_eq_getElem?_getD, List.getD_eq_getElem?_getD, List.getElem?_set]
  by_cases e : i = j
  · rw [if_pos e, if_pos e.symm, if_pos h]; rfl
  · rw [if_neg e, if_neg (fun h => e h.symm)]
end Go.Proofs.Ytobegmljkfphjaa.Ghost
namespace Go.Proofs.Ytobegmljkfphjaa.Ghost
open Go
theorem eqKey_dec (x y : den tKey) : eqT tKey x y = dec (x = y) := by
  obtain ⟨a1, a2, ⟨⟩⟩ := x
  obtain ⟨b1, b2, ⟨⟩⟩ := y
  rw [Bool.eq_iff_iff, dec_true]
  simp [eqT, eqTL]
/-- two numbers: less, the same, greater -/
def cmpI (a b : Int) : Int := bif decide (a < b) then -1 else bif decide (b < a) then 1 else 0
theorem isnan_spec (a : Int) : Comes (fun nf _ _ _ => cmp_isNaN_int nf (a)) (fun r => r = ((false, ()), [])) := by
  refine Comes.succ (fun nf _ _ _ => cmp_isNaN_int.eq nf _) ?_
  simp
theorem cmpI_spec (a b : Int) : Comes (fun nf _ _ _ => cmp_Compare_int nf (a) (b)) (fun r => r = ((cmpI a b, ()), [])) := by
  refine Comes.succ (fun nf _ _ _ => cmp_Compare_int.eq nf _ _) ?_
  simp only [comes_call (isnan_spec a), (isnan_spec a).prop, comes_call (isnan_spec b), (isnan_spec b).prop, cond_false]
  unfold cmpI
  by_cases h : a < b
  · simp [h]
  · by_cases k : b < a
    · simp [h, k]
    · simp [h, k]
def kCmp (a b : den tKey) : Int := bif decide (cmpI a.1 b.1 = 0) then cmpI a.2.1 b.2.1 else cmpI a.1 b.1
theorem or_spec (x y : Int) : Comes (fun nf _ _ _ => cmp_Or_int nf ([x, y])) (fun r => r = ((bif decide (x = 0) then y else x, ()), [])) := by
  have l2 : ∀ t0 t2, Comes (fun nf fm0 _ _ => cmp_Or_int.l0 nf fm0 t0 t2 (0) ([x, y]) (2) (2)) (fun r => r = ((0, ()), [])) := fun t0 t2 => by
    refine Comes.succ1 (fun nf fm0 _ _ => cmp_Or_int.l0_eq nf fm0 _ _ _ _ _ _) ?_
    simp [-List.getD_eq_getElem?_getD, -List.length_eq_zero_iff, keepAll, freshHas, pathEq, eqPl_dec, wrap1, wrap0, nbeq]
  have g0 : [x, y].getD 0 0 = x := rfl
  have g1 : [x, y].getD 1 0 = y := rfl
  have w2 : IntKind.wrap .i64 2 = 2 := by decide
  have l1 : ∀ t0 t2, Comes (fun nf fm0 _ _ => cmp_Or_int.l0 nf fm0 t0 t2 (0) ([x, y]) (2) (1)) (fun r => r = ((y, ()), [])) := fun t0 t2 => by
    refine Comes.succ1 (fun nf fm0 _ _ => cmp_Or_int.l0_eq nf fm0 _ _ _ _ _ _) ?_
    by_cases k : y = 0
    · simp [-List.getD_eq_getElem?_getD, -List.length_eq_zero_iff, keepAll, freshHas, pathEq, eqPl_dec, wrap1, wrap0, nbeq, g1, w2]
      have := l2 t0 t2
      subst k
      exact fun _ => this
    · simp [-List.getD_eq_getElem?_getD, -List.length_eq_zero_iff, keepAll, freshHas, pathEq, eqPl_dec, wrap1, wrap0, nbeq, g1, k]
  have l0 : ∀ t0 t2, Comes (fun nf fm0 _ _ => cmp_Or_int.l0 nf fm0 t0 t2 (0) ([x, y]) (2) (0)) (fun r => r = ((bif decide (x = 0) then y else x, ()), [])) := fun t0 t2 => by
    refine Comes.succ1 (fun nf fm0 _ _ => cmp_Or_int.l0_eq nf fm0 _ _ _ _ _ _) ?_
    by_cases k : x = 0
    · simp only [k] at g0 ⊢
      simp [-List.getD_eq_getElem?_getD, -List.length_eq_zero_iff, keepAll, freshHas, pathEq, eqPl_dec, wrap1, wrap0, nbeq, g0]
      have := l1 t0 t2
      rw [show x = 0 from k] at this
      exact this
    · simp [-List.getD_eq_getElem?_getD, -List.length_eq_zero_iff, keepAll, freshHas, pathEq, eqPl_dec, wrap1, wrap0, nbeq, g0, k]
  refine Comes.succ (fun nf _ _ _ => cmp_Or_int.eq nf _) ?_
  exact (l0 [x, y] 0).enter
theorem kcmp_spec (a b : den tKey) : Comes (fun nf _ _ _ => keys_compare nf (a) (b)) (fun r => r = ((kCmp a b, ()), [])) := by
  refine Comes.succ (fun nf _ _ _ => keys_compare.eq nf _ _) ?_
  simp only [comes_call (cmpI_spec a.1 b.1), (cmpI_spec a.1 b.1).prop, comes_call (cmpI_spec a.2.1 b.2.1), (cmpI_spec a.2.1 b.2.1).prop, comes_call (or_spec (cmpI a.1 b.1) (cmpI a.2.1 b.2.1)), (or_spec (cmpI a.1 b.1) (cmpI a.2.1 b.2.1)).prop]
  simp [kCmp]
theorem kCmp_lt (a b : den tKey) : decide (kCmp a b < 0) = kLt a b := by
  have key : ∀ a1 a2 b1 b2 : Int, decide ((bif decide (cmpI a1 b1 = 0) then cmpI a2 b2 else cmpI a1 b1) < 0) = (decide (a1 < b1) || (decide (a1 = b1) && decide (a2 < b2))) := by
    intro a1 a2 b1 b2
    unfold cmpI
    by_cases h : a1 < b1
    · simp [h]
    · by_cases k : b1 < a1
      · have : ¬ a1 = b1 := by omega
        simp [h, k, this]
      · have e : a1 = b1 := by omega
        subst e
        by_cases h2 : a2 < b2
        · simp [h2]
        · by_cases k2 : b2 < a2
          · simp [h2, k2]
          · simp [h2, k2]
  exact key _ _ _ _
theorem kless_spec (a b : den tKey) : Comes (fun nf _ _ _ => keys_Less nf (a) (b)) (fun r => r = ((kLt a b, ()), [])) := by
  refine Comes.succ (fun nf _ _ _ => keys_Less.eq nf _ _) ?_
  simp only [comes_call (kcmp_spec a b), (kcmp_spec a b).prop, comes_ret, kCmp_lt]
theorem rless_spec (a b : den tKey) : Comes (fun nf _ _ _ => innkeepref14_Less nf (a) (b)) (fun r => r = ((kLt a b, ()), [])) := by
  refine Comes.succ (fun nf _ _ _ => innkeepref14_Less.eq nf _ _) ?_
  unfold kLt
  by_cases h : (a.1 : Int) < b.1
  · simp [h]
  · by_cases k : (a.1 : Int) = b.1
    · simp [h, k]
    · simp [h, k]
theorem rsame_l0 (a b : List (den tKey)) (ha : a.length ≤ 1048576) (hl : a.length = b.length) (t4 : Bool) : ∀ i, i ≤ a.length → Comes (fun nf fm0 _ _ => innkeepref14_Same.l0 nf fm0 (a) (b) t4 ((i : Int))) (fun r => r = ((dec (∀ j, i ≤ j → j < a.length → List.getD a j (dft tKey) = List.getD b j (dft tKey)), ()), [])) := by
  refine upto ?_ (fun i hi next => ?_)
  · refine Comes.succ1 (fun nf fm0 _ _ => innkeepref14_Same.l0_eq nf fm0 _ _ _ _) ?_
    simp [-List.getD_eq_getElem?_getD, -List.length_eq_zero_iff, keepAll, freshHas, pathEq, eqPl_dec, wrap1, wrap0, nbeq]
    intro j h1 h2; omega
  · rw [← wrap_succ (by omega)] at next
    have hi2 : i < b.length := by omega
    refine Comes.succ1 (fun nf fm0 _ _ => innkeepref14_Same.l0_eq nf fm0 _ _ _ _) ?_
    by_cases e : List.getD a i (dft tKey) = List.getD b i (dft tKey)
    · simp [-List.getD_eq_getElem?_getD, -List.length_eq_zero_iff, keepAll, freshHas, pathEq, eqPl_dec, wrap1, wrap0, nbeq, hi, hi2, e, eqKey_dec]
      refine next.mono (fun v hv => ?_)
      rw [hv]
      have : (∀ j, i + 1 ≤ j → j < a.length → List.getD a j (dft tKey) = List.getD b j (dft tKey)) = (∀ j, i ≤ j → j < a.length → List.getD a j (dft tKey) = List.getD b j (dft tKey)) := propext ⟨fun h j h1 h2 => by
        by_cases hj : j = i
        · subst hj; exact e
        · exact h j (by omega) h2, fun h j h1 h2 => h j (by omega) h2⟩
      rw [this]
    · simp [-List.getD_eq_getElem?_getD, -List.length_eq_zero_iff, keepAll, freshHas, pathEq, eqPl_dec, wrap1, wrap0, nbeq, hi, hi2, e, eqKey_dec]
      exact ⟨i, Nat.le_refl i, hi, e⟩
theorem rsame_spec (a b : List (den tKey)) (ha : a.length ≤ 1048576) : Comes (fun nf _ _ _ => innkeepref14_Same nf (a) (b)) (fun r => r = ((dec (a = b), ()), [])) := by
  by_cases hl : a.length = b.length
  · have l0 := (rsame_l0 a b ha hl false 0 (Nat.zero_le _))
    have : (∀ j, 0 ≤ j → j < a.length → List.getD a j (dft tKey) = List.getD b j (dft tKey)) = (a = b) := propext ⟨fun h => ext_getD (dft tKey) hl (fun j hj => h j (Nat.zero_le j) hj), fun h j _ _ => by rw [h]⟩
    rw [this] at l0
    refine Comes.succ (fun nf _ _ _ => innkeepref14_Same.eq nf _ _) ?_
    simp [-List.getD_eq_getElem?_getD, -List.length_eq_zero_iff, keepAll, freshHas, pathEq, eqPl_dec, wrap1, wrap0, nbeq, hl]
    exact l0.enter
  · have e : ¬ a = b := fun e => hl (by rw [e])
    refine Comes.succ (fun nf _ _ _ => innkeepref14_Same.eq nf _ _) ?_
    simp [-List.getD_eq_getElem?_getD, -List.length_eq_zero_iff, keepAll, freshHas, pathEq, eqPl_dec, wrap1, wrap0, nbeq, hl, e, show ¬ (a.length : Int) = (b.length : Int) by omega]
end Go.Proofs.Ytobegmljkfphjaa.Ghost
