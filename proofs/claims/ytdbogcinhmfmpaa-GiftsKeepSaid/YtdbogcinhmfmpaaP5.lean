/- What functions come to, and that the statements are answered with 'true'. Conditions: none. -/
import Derived.Test.YtdbogcinhmfmpaaS
import Derived.Test.YtdbogcinhmfmpaaGE
import Derived.Test.YtdbogcinhmfmpaaP1
import Derived.Test.YtdbogcinhmfmpaaP2
import Derived.Test.YtdbogcinhmfmpaaP3
import Derived.Test.YtdbogcinhmfmpaaP4
set_option linter.unusedVariables false
set_option linter.unusedSimpArgs false
set_option linter.unusedSectionVars false
set_option linter.unnecessarySimpa false
namespace Go.Proofs.Ytdbogcinhmfmpaa.Ghost
open Go
abbrev iAt (l : List Int) (j : Nat) : Int := List.getD l j 0
def Bad (w : den tWorld) (l : List Int) : Prop := ∃ j, j < l.length ∧ ¬ inR w (iAt l j)
def Away (w : den tWorld) (l : List Int) (p : Int) : Prop := ∃ j, j < l.length ∧ ¬ plOf w (iAt l j).toNat = ((1 : Int), p, ())
def Dup (l : List Int) : Prop := ∃ i j, i < j ∧ j < l.length ∧ iAt l i = iAt l j
theorem index_l0 (w : den tWorld) (l : List Int) (hl : l.length ≤ 1048576) (t4 : Int) : ∀ i, i ≤ l.length → Comes (fun nf fm0 _ _ => slices_IndexFunc_sint_int.l0 nf fm0 (l) (w) t4 ((l.length : Int)) ((i : Int))) (fun r => 0 ≤ r.1.1 ↔ ∃ j, i ≤ j ∧ j < l.length ∧ ¬ inR w (iAt l j)) := by
  refine upto ?_ (fun i hi next => ?_)
  · refine Comes.succ1 (fun nf fm0 _ _ => slices_IndexFunc_sint_int.l0_eq nf fm0 _ _ _ _ _) ?_
    simp [-List.getD_eq_getElem?_getD, -List.length_eq_zero_iff, keepAll, freshHas, pathEq, eqPl_dec, wrap1, wrap0, nbeq]
    exact fun j h1 h2 => by omega
  · have sp : ∀ k, Comes (fun nf _ _ _ => gifts_Trade_2 nf (k) (w)) (fun r => r = ((dec (¬ inR w k), ()), [])) := fun k => by
      refine Comes.succ (fun nf _ _ _ => gifts_Trade_2.eq nf _ _) ?_
      simp [-List.getD_eq_getElem?_getD, -List.length_eq_zero_iff, keepAll, freshHas, pathEq, eqPl_dec, wrap1, wrap0, nbeq, comes_call (gis_spec w k), (gis_spec w k).prop]
    refine Comes.succ1 (fun nf fm0 _ _ => slices_IndexFunc_sint_int.l0_eq nf fm0 _ _ _ _ _) ?_
    rw [← wrap_succ (by omega)] at next
    by_cases h : inR w (iAt l i)
    · have next := next.mono (Q' := fun r => 0 ≤ r.1.1 ↔ ∃ j, i ≤ j ∧ j < l.length ∧ ¬ inR w (iAt l j)) (fun v hv => hv.trans ⟨fun ⟨j, a, b, c⟩ => ⟨j, by omega, b, c⟩, fun ⟨j, a, b, c⟩ => ⟨j, by
        by_cases e : j = i
        · subst e; exact absurd h c
        · omega, b, c⟩⟩)
      simp [-List.getD_eq_getElem?_getD, -List.length_eq_zero_iff, keepAll, freshHas, pathEq, eqPl_dec, wrap1, wrap0, nbeq, hi, comes_call (sp _), (sp _).prop, h]
      exact next
    · simp [-List.getD_eq_getElem?_getD, -List.length_eq_zero_iff, keepAll, freshHas, pathEq, eqPl_dec, wrap1, wrap0, nbeq, hi, comes_call (sp _), (sp _).prop, h]
      exact ⟨i, Nat.le_refl i, hi, h⟩
theorem bad_spec (w : den tWorld) (l : List Int) (hl : l.length ≤ 1048576) : Comes (fun nf _ _ _ => slices_ContainsFunc_sint_int nf (l) (w)) (fun r => r.1.1 = true ↔ Bad w l) := by
  have h : Comes (fun nf _ _ _ => slices_IndexFunc_sint_int nf (l) (w)) (fun r => 0 ≤ r.1.1 ↔ Bad w l) := by
    refine Comes.succ (fun nf _ _ _ => slices_IndexFunc_sint_int.eq nf _ _) ?_
    exact (index_l0 w l hl _ 0 (Nat.zero_le _)).enter.mono (fun v hv => hv.trans ⟨fun ⟨j, _, b, c⟩ => ⟨j, b, c⟩, fun ⟨j, b, c⟩ => ⟨j, Nat.zero_le _, b, c⟩⟩)
  refine Comes.succ (fun nf _ _ _ => slices_ContainsFunc_sint_int.eq nf _ _) ?_
  simp [comes_call (h), (h).prop]
theorem index1_l0 (w : den tWorld) (l : List Int) (hl : l.length ≤ 1048576) (hb : ¬ Bad w l) (p : Int) (t4 : Int) : ∀ i, i ≤ l.length → Comes (fun nf fm0 _ _ => slices_IndexFunc_sint_int_v1.l0 nf fm0 (l) (w) (p) t4 ((l.length : Int)) ((i : Int))) (fun r => 0 ≤ r.1.1 ↔ ∃ j, i ≤ j ∧ j < l.length ∧ ¬ plOf w (iAt l j).toNat = ((1 : Int), p, ())) := by
  refine upto ?_ (fun i hi next => ?_)
  · refine Comes.succ1 (fun nf fm0 _ _ => slices_IndexFunc_sint_int_v1.l0_eq nf fm0 _ _ _ _ _ _) ?_
    simp [-List.getD_eq_getElem?_getD, -List.length_eq_zero_iff, keepAll, freshHas, pathEq, eqPl_dec, wrap1, wrap0, nbeq]
    exact fun j h1 h2 => by omega
  · have hin : inR w (iAt l i) := Classical.byContradiction (fun h => hb ⟨i, hi, h⟩)
    obtain ⟨k, ek, hk⟩ := inR_nat hin
    have sp : Comes (fun nf _ _ _ => gifts_Trade_1_1 nf ((k : Int)) (w) (p)) (fun r => r = ((dec (¬ plOf w k = ((1 : Int), p, ())), ()), [])) := by
      refine Comes.succ (fun nf _ _ _ => gifts_Trade_1_1.eq nf _ _ _) ?_
      simp [-List.getD_eq_getElem?_getD, -List.length_eq_zero_iff, keepAll, freshHas, pathEq, eqPl_dec, wrap1, wrap0, nbeq, hk, comes_call (gwith_spec p), (gwith_spec p).prop]
    refine Comes.succ1 (fun nf fm0 _ _ => slices_IndexFunc_sint_int_v1.l0_eq nf fm0 _ _ _ _ _ _) ?_
    rw [← wrap_succ (by omega)] at next
    by_cases h : plOf w (iAt l i).toNat = ((1 : Int), p, ())
    · have next := next.mono (Q' := fun r => 0 ≤ r.1.1 ↔ ∃ j, i ≤ j ∧ j < l.length ∧ ¬ plOf w (iAt l j).toNat = ((1 : Int), p, ())) (fun v hv => hv.trans ⟨fun ⟨j, a, b, c⟩ => ⟨j, by omega, b, c⟩, fun ⟨j, a, b, c⟩ => ⟨j, by
        by_cases e : j = i
        · subst e; exact absurd h c
        · omega, b, c⟩⟩)
      rw [ek, Int.toNat_natCast] at h
      simp [-List.getD_eq_getElem?_getD, -List.length_eq_zero_iff, keepAll, freshHas, pathEq, eqPl_dec, wrap1, wrap0, nbeq, hi, ek, comes_call (sp), (sp).prop, h]
      exact next
    · have h' := h
      rw [ek, Int.toNat_natCast] at h'
      simp [-List.getD_eq_getElem?_getD, -List.length_eq_zero_iff, keepAll, freshHas, pathEq, eqPl_dec, wrap1, wrap0, nbeq, hi, ek, comes_call (sp), (sp).prop, h']
      exact ⟨i, Nat.le_refl i, hi, h⟩
theorem away_spec (w : den tWorld) (l : List Int) (hl : l.length ≤ 1048576) (hb : ¬ Bad w l) (p : Int) : Comes (fun nf _ _ _ => gifts_Trade_1 nf (l) (p) (w)) (fun r => r.1.1 = true ↔ Away w l p) := by
  have h : Comes (fun nf _ _ _ => slices_IndexFunc_sint_int_v1 nf (l) (w) (p)) (fun r => 0 ≤ r.1.1 ↔ Away w l p) := by
    refine Comes.succ (fun nf _ _ _ => slices_IndexFunc_sint_int_v1.eq nf _ _ _) ?_
    exact (index1_l0 w l hl hb p _ 0 (Nat.zero_le _)).enter.mono (fun v hv => hv.trans ⟨fun ⟨j, _, b, c⟩ => ⟨j, b, c⟩, fun ⟨j, b, c⟩ => ⟨j, Nat.zero_le _, b, c⟩⟩)
  have h2 : Comes (fun nf _ _ _ => slices_ContainsFunc_sint_int_v1 nf (l) (w) (p)) (fun r => r.1.1 = true ↔ Away w l p) := by
    refine Comes.succ (fun nf _ _ _ => slices_ContainsFunc_sint_int_v1.eq nf _ _ _) ?_
    simp [comes_call (h), (h).prop]
  refine Comes.succ (fun nf _ _ _ => gifts_Trade_1.eq nf _ _ _) ?_
  simp [comes_call (h2), (h2).bprop]
/-! ### Twice -/
theorem mapFind_put (k k' : Int) (v : Bool) : (m : List (Int × Bool)) → mapFind (.int .i64) .bool k' (mapPut (.int .i64) .bool k v m) = if k' = k then some v else mapFind (.int .i64) .bool k' m
  | [] => by
    simp only [mapPut, mapFind, eqT]
    by_cases h : k' = k <;> simp [h]
  | (a, b) :: r => by
    have ih := mapFind_put k k' v r
    simp only [mapPut, mapFind, eqT]
    by_cases h1 : k = a
    · subst h1
      simp only [beq_self_eq_true, if_true, mapFind, eqT]
      by_cases h : k' = k <;> simp [h]
    · have h1' : (k == a) = false := by simpa using h1
      simp only [h1', Bool.false_eq_true, if_false, mapFind, eqT, ih]
      by_cases h2 : k' = a
      · subst h2
        have : ¬ k' = k := fun e => h1 e.symm
        simp [this]
      · have h2' : (k' == a) = false := by simpa using h2
        simp [h2']
theorem twice_l0 (l : List Int) (hl : l.length ≤ 1048576) (t0 : (List Int)) (t2 : Bool) : ∀ i, i ≤ l.length → ∀ m : List (Int × Bool), (∀ k, mapFind (.int .i64) .bool k m = some true ∨ mapFind (.int .i64) .bool k m = none) → (∀ k, mapFind (.int .i64) .bool k m = some true ↔ ∃ i', i' < i ∧ iAt l i' = k) →
    Comes (fun nf fm0 _ _ => gifts_twice.l0 nf fm0 t0 t2 (l) ((l.length : Int)) ((i : Int)) (m)) (fun r => r.1.1 = true ↔ ∃ i' j, i' < j ∧ i ≤ j ∧ j < l.length ∧ iAt l i' = iAt l j) := by
  refine upto (fun m hm0 hm => ?_) (fun i hi next m hm0 hm => ?_)
  · refine Comes.succ1 (fun nf fm0 _ _ => gifts_twice.l0_eq nf fm0 _ _ _ _ _ _) ?_
    simp [-List.getD_eq_getElem?_getD, -List.length_eq_zero_iff, keepAll, freshHas, pathEq, eqPl_dec, wrap1, wrap0, nbeq]
    exact fun _ j _ h1 h2 => by omega
  · refine Comes.succ1 (fun nf fm0 _ _ => gifts_twice.l0_eq nf fm0 _ _ _ _ _ _) ?_
    by_cases h : ∃ i', i' < i ∧ iAt l i' = iAt l i
    · have hf := (hm (iAt l i)).2 h
      simp [-List.getD_eq_getElem?_getD, -List.length_eq_zero_iff, keepAll, freshHas, pathEq, eqPl_dec, wrap1, wrap0, nbeq, hi, hf]
      obtain ⟨i', h1, h2⟩ := h
      exact ⟨i', i, h1, Nat.le_refl i, hi, h2⟩
    · have hf : mapFind (.int .i64) .bool (iAt l i) m = none := (hm0 _).resolve_left (fun e => h ((hm _).1 e))
      have next := next (mapPut (.int .i64) .bool (iAt l i) true m) (fun k => by
        rw [mapFind_put]
        split
        · exact .inl rfl
        · exact hm0 k) (fun k => by
        rw [mapFind_put]
        by_cases e : k = iAt l i
        · rw [if_pos e]; exact ⟨fun _ => ⟨i, by omega, e.symm⟩, fun _ => rfl⟩
        · rw [if_neg e, hm k]
          exact ⟨fun ⟨j, a, b⟩ => ⟨j, by omega, b⟩, fun ⟨j, a, b⟩ => ⟨j, by
            by_cases e2 : j = i
            · subst e2; exact absurd b.symm e
            · omega, b⟩⟩)
      rw [← wrap_succ (by omega)] at next
      have next := next.mono (Q' := fun r => r.1.1 = true ↔ ∃ i' j, i' < j ∧ i ≤ j ∧ j < l.length ∧ iAt l i' = iAt l j) (fun v hv => hv.trans ⟨fun ⟨i', j, a, b, c, d⟩ => ⟨i', j, a, by omega, c, d⟩, fun ⟨i', j, a, b, c, d⟩ => ⟨i', j, a, by
        by_cases e : j = i
        · subst e; exact absurd ⟨i', a, d⟩ h
        · omega, c, d⟩⟩)
      simp [-List.getD_eq_getElem?_getD, -List.length_eq_zero_iff, keepAll, freshHas, pathEq, eqPl_dec, wrap1, wrap0, nbeq, hi, hf]
      exact next
theorem twice_spec (l : List Int) (hl : l.length ≤ 1048576) : Comes (fun nf _ _ _ => gifts_twice nf (l)) (fun r => r.1.1 = true ↔ Dup l) := by
  refine Comes.succ (fun nf _ _ _ => gifts_twice.eq nf _) ?_
  exact (twice_l0 l hl l false 0 (Nat.zero_le _) [] (fun k => .inr rfl) (fun k => ⟨fun h => (by cases h), fun ⟨i, h, _⟩ => by omega⟩)).enter.mono (fun v hv => hv.trans ⟨fun ⟨i, j, a, _, c, d⟩ => ⟨i, j, a, c, d⟩, fun ⟨i, j, a, c, d⟩ => ⟨i, j, a, Nat.zero_le _, c, d⟩⟩)
end Go.Proofs.Ytdbogcinhmfmpaa.Ghost
