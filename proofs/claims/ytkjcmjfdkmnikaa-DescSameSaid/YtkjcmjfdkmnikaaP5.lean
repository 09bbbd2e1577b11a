/- What functions come to, and that the statements are answered with 'true'. Conditions: none. -/
import Derived.Test.YtkjcmjfdkmnikaaS
import Derived.Test.YtkjcmjfdkmnikaaGE
import Derived.Test.YtkjcmjfdkmnikaaP1
import Derived.Test.YtkjcmjfdkmnikaaP2
import Derived.Test.YtkjcmjfdkmnikaaP3
import Derived.Test.YtkjcmjfdkmnikaaP4
set_option linter.unusedVariables false
set_option linter.unusedSimpArgs false
set_option linter.unusedSectionVars false
set_option linter.unnecessarySimpa false
namespace Go.Proofs.Ytkjcmjfdkmnikaa.Ghost
open Go
/-- no more than so many boxes are above a place -/
def shP (l : List Pl) : Nat → Pl → Prop
  | 0, p => ¬ p.1 = (2 : Int)
  | k + 1, p => p.1 = (2 : Int) → shP l k (List.getD l (Int.toNat p.2.1) (dft tPlace))
theorem depI_ge (l : List Pl) : (f c : Nat) → f + c = 51 → (p : Pl) → c ≤ depI l f c p
  | 0, c, hc, p => by
    simp only [depI]
    split <;> omega
  | f + 1, c, hc, p => by
    simp only [depI]
    split
    · split
      · omega
      · have := depI_ge l f (c + 1) (by omega) (List.getD l (Int.toNat p.2.1) (dft tPlace))
        omega
    · omega
theorem sh_iff (l : List Pl) : (k f c : Nat) → f + c = 51 → c + k ≤ 49 → (p : Pl) → (shP l k p ↔ depI l f c p ≤ c + k)
  | 0, f, c, h1, h2, p => by
    obtain ⟨f', rfl⟩ : ∃ f', f = f' + 1 := ⟨f - 1, by omega⟩
    simp only [shP, depI]
    by_cases e : p.1 = (2 : Int)
    · rw [if_pos e, if_neg (by omega)]
      have := depI_ge l f' (c + 1) (by omega) (List.getD l (Int.toNat p.2.1) (dft tPlace))
      exact ⟨fun h => absurd e h, fun h => by omega⟩
    · rw [if_neg e]
      exact ⟨fun _ => by omega, fun _ => e⟩
  | k + 1, f, c, h1, h2, p => by
    obtain ⟨f', rfl⟩ : ∃ f', f = f' + 1 := ⟨f - 1, by omega⟩
    simp only [shP, depI]
    by_cases e : p.1 = (2 : Int)
    · rw [if_pos e, if_neg (by omega)]
      have := sh_iff l k f' (c + 1) (by omega) (by omega) (List.getD l (Int.toNat p.2.1) (dft tPlace))
      rw [show c + (k + 1) = c + 1 + k by omega, ← this]
      exact ⟨fun h => h e, fun h _ => h⟩
    · rw [if_neg e]
      exact ⟨fun _ => by omega, fun _ h => absurd h e⟩
theorem shallow_spec (w : den tWorld) (hl : ∀ i, i < List.length (w.2.2.2.1 : List (den tPlace)) → inPl w.2.2.2.1 (List.getD w.2.2.2.1 i (dft tPlace))) : (k c : Nat) → c + k = 4 → (p : Pl) → inPl w.2.2.2.1 p → Comes (fun nf _ _ _ => desc_Right_3 nf (p) ((c : Int)) (w) (w)) (fun r => r = ((dec (shP w.2.2.2.1 k p), ()), []))
  | 0, c, hc, p, hp => by
    obtain rfl : c = 4 := by omega
    refine Comes.succ (fun nf _ _ _ => desc_Right_3.eq nf _ _ _ _) ?_
    by_cases e : p.1 = (2 : Int) <;> simp [-List.getD_eq_getElem?_getD, -List.length_eq_zero_iff, keepAll, freshHas, pathEq, eqPl_dec, wrap1, wrap0, nbeq, e, shP]
  | k + 1, c, hc, p, hp => by
    by_cases e : p.1 = (2 : Int)
    · obtain ⟨g1, g2⟩ := hp e
      have ih := shallow_spec w hl k (c + 1) (by omega) (List.getD w.2.2.2.1 (Int.toNat p.2.1) (dft tPlace)) (hl _ ((Int.toNat_lt g1).2 g2))
      rw [← wrap_succ (by omega)] at ih
      refine Comes.succ (fun nf _ _ _ => desc_Right_3.eq nf _ _ _ _) ?_
      simp [-List.getD_eq_getElem?_getD, -List.length_eq_zero_iff, keepAll, freshHas, pathEq, eqPl_dec, wrap1, wrap0, nbeq, e, shP, show (c : Int) < 4 by omega, g1, g2, comes_call (ih), (ih).prop]
    · refine Comes.succ (fun nf _ _ _ => desc_Right_3.eq nf _ _ _ _) ?_
      simp [-List.getD_eq_getElem?_getD, -List.length_eq_zero_iff, keepAll, freshHas, pathEq, eqPl_dec, wrap1, wrap0, nbeq, e, shP]
/-! ### A map, counted up -/
def putK (ν : Ty) (p : Pl) (x : den ν) : List (Pl × den ν) → List (Pl × den ν)
  | [] => [(p, x)]
  | (k, v) :: r => if eqT tPlace p k then (k, x) :: r else (k, v) :: putK ν p x r
theorem mapSet_put (ν : Ty) (p : Pl) (x : den ν) : (l : List (Pl × den ν)) → mapSet tPlace ν (mapIx tPlace ν p l) x (mapEnt tPlace ν p l) = putK ν p x l ∧ mapIx tPlace ν p l < (mapEnt tPlace ν p l).length
  | [] => ⟨rfl, by simp [mapIx, mapEnt, mapFind]⟩
  | (k, v) :: r => by
    obtain ⟨i1, i2⟩ := mapSet_put ν p x r
    by_cases h : eqT tPlace p k = true
    · have e1 : mapEnt tPlace ν p ((k, v) :: r) = (k, v) :: r := by simp only [mapEnt, mapFind, h, if_true]
      rw [e1]
      simp only [mapIx, h, if_true, mapSet, putK]
      exact ⟨trivial, by simp⟩
    · have e1 : mapEnt tPlace ν p ((k, v) :: r) = (k, v) :: mapEnt tPlace ν p r := by
        simp only [mapEnt, mapFind, h, if_false, Bool.false_eq_true]
        cases mapFind tPlace ν p r <;> rfl
      rw [e1]
      simp only [mapIx, h, if_false, Bool.false_eq_true, mapSet, putK, i1]
      exact ⟨trivial, by simp only [List.length_cons]; omega⟩
theorem find_put (ν : Ty) (p q : Pl) (x d : den ν) : (l : List (Pl × den ν)) → (mapFind tPlace ν q (putK ν p x l)).getD d = if q = p then x else (mapFind tPlace ν q l).getD d
  | [] => by
    simp only [putK, mapFind]
    by_cases h : q = p
    · rw [if_pos h, if_pos ((eqPl _ _).2 h)]; rfl
    · rw [if_neg h, if_neg (fun e => h ((eqPl _ _).1 e))]
  | (k, v) :: r => by
    have ih := find_put ν p q x d r
    by_cases h1 : eqT tPlace p k = true
    · have e1 := (eqPl _ _).1 h1
      subst e1
      simp only [putK, h1, if_true, mapFind]
      by_cases h : q = p
      · rw [if_pos h, if_pos ((eqPl _ _).2 h)]; rfl
      · rw [if_neg h, if_neg (fun e => h ((eqPl _ _).1 e)), if_neg (fun e => h ((eqPl _ _).1 e))]
    · simp only [putK, h1, if_false, Bool.false_eq_true, mapFind]
      by_cases h2 : eqT tPlace q k = true
      · have e2 := (eqPl _ _).1 h2
        subst e2
        rw [if_pos h2, if_neg (fun e => h1 ((eqPl _ _).2 e.symm)), if_pos h2]
      · rw [if_neg h2, if_neg h2]; exact ih
/-! ### Right worlds -/
theorem many_last (l : List Pl) (p : Pl) : (n : Nat) → (i : Nat) → i < n → List.getD l i (dft tPlace) = p → ∃ j, j < n ∧ List.getD l j (dft tPlace) = p ∧ manyPl l p n = manyPl l p (j + 1)
  | 0, i, h, _ => by omega
  | n + 1, i, h, hp => by
    by_cases e : List.getD l n (dft tPlace) = p
    · exact ⟨n, by omega, e, rfl⟩
    · have hi : i < n := by
        by_cases e2 : i = n
        · subst e2; exact absurd hp e
        · omega
      obtain ⟨j, h1, h2, h3⟩ := many_last l p n i hi hp
      refine ⟨j, by omega, h2, ?_⟩
      simp only [manyPl]
      simp only [manyPl] at h3
      rw [if_neg e, h3]; rfl
theorem many_mono (l : List Pl) (p : Pl) : (n m : Nat) → n ≤ m → manyPl l p n ≤ manyPl l p m
  | n, 0, h => by obtain rfl : n = 0 := by omega
                  exact Nat.le_refl _
  | n, m + 1, h => by
    by_cases e : n = m + 1
    · subst e; exact Nat.le_refl _
    · have := many_mono l p n m (by omega)
      simp only [manyPl]
      omega
def stepP (w : den tWorld) (j : Nat) : Prop := (manyPl w.2.2.2.1 (List.getD w.2.2.2.1 j (dft tPlace)) (j + 1) : Int) ≤ capI w.1 (List.getD w.2.2.2.1 j (dft tPlace)) ∧ shP w.2.2.2.1 4 (List.getD w.2.2.2.1 j (dft tPlace))
theorem caps_at (d : den tDesc) {p : Pl} (h : (0 : Int) ≤ p.1 ∧ (p.1 : Int) < 3) : List.getD ([(d.2.2.2.2.2.1 : Int), (d.2.2.2.2.2.2.1 : Int), (d.2.2.2.2.2.2.2.1 : Int)] : List Int) (Int.toNat p.1) 0 = capI d p := by
  have key : ∀ k : Int, 0 ≤ k → k < 3 → k = 0 ∨ k = 1 ∨ k = 2 := fun k h0 h1 => by omega
  unfold capI
  rcases key p.1 h.1 h.2 with e | e | e <;> rw [e] <;> rfl
theorem dright_l0 (w : den tWorld) (hs : Sm w) (hg : ∀ i, i < List.length (w.2.2.2.1 : List (den tPlace)) → (0 : Int) ≤ (List.getD w.2.2.2.1 i (dft tPlace)).1 ∧ ((List.getD w.2.2.2.1 i (dft tPlace)).1 : Int) < 3) (hin : ∀ i, i < List.length (w.2.2.2.1 : List (den tPlace)) → inPl w.2.2.2.1 (List.getD w.2.2.2.1 i (dft tPlace))) (t0 : (den tWorld)) (t2 : Bool) (o1 : (den tDesc)) :
    ∀ i, i ≤ List.length (w.2.2.2.1 : List (den tPlace)) → ∀ o3, (∀ p, (mapFind tPlace (.int .i64) p o3).getD (0 : Int) = (manyPl w.2.2.2.1 p i : Int)) → Comes (fun nf fm0 _ _ => desc_Right.l0 nf fm0 t0 t2 (w.2.2.2.1) ((List.length (w.2.2.2.1 : List (den tPlace)) : Int)) ((i : Int)) (w) o1 (o3) ([(w.1.2.2.2.2.2.1 : Int), (w.1.2.2.2.2.2.2.1 : Int), (w.1.2.2.2.2.2.2.2.1 : Int)])) (fun r => r = ((dec (∀ j, i ≤ j → j < List.length (w.2.2.2.1 : List (den tPlace)) → stepP w j), ()), [])) := by
  have hwh := hs.wh
  refine upto (fun o hc => ?_) (fun i hi next o hc => ?_)
  · refine Comes.succ1 (fun nf fm0 _ _ => desc_Right.l0_eq nf fm0 _ _ _ _ _ _ _ _ _) ?_
    simp [-List.getD_eq_getElem?_getD, -List.length_eq_zero_iff, keepAll, freshHas, pathEq, eqPl_dec, wrap1, wrap0, nbeq]
    intro j a b; omega
  · obtain ⟨k1, k2⟩ := mapSet_put (.int .i64) (List.getD w.2.2.2.1 i (dft tPlace)) ((manyPl w.2.2.2.1 (List.getD w.2.2.2.1 i (dft tPlace)) i : Int) + 1) o
    have hm := manyPl_le w.2.2.2.1 (List.getD w.2.2.2.1 i (dft tPlace)) i
    have hcount : ∀ p, (mapFind tPlace (.int .i64) p (putK (.int .i64) (List.getD w.2.2.2.1 i (dft tPlace)) ((manyPl w.2.2.2.1 (List.getD w.2.2.2.1 i (dft tPlace)) i : Int) + 1) o)).getD (0 : Int) = (manyPl w.2.2.2.1 p (i + 1) : Int) := fun p => by
      refine (find_put (.int .i64) (List.getD w.2.2.2.1 i (dft tPlace)) p _ _ o).trans ?_
      simp only [manyPl]
      by_cases e : p = List.getD w.2.2.2.1 i (dft tPlace)
      · rw [if_pos e, ← e, if_pos rfl]; rfl
      · rw [if_neg e, hc p, if_neg (fun e' => e e'.symm)]; rfl
    have next := next _ hcount
    have ew : IntKind.wrap .i64 ((manyPl w.2.2.2.1 (List.getD w.2.2.2.1 i (dft tPlace)) i : Int) + 1) = (manyPl w.2.2.2.1 (List.getD w.2.2.2.1 i (dft tPlace)) i : Int) + 1 := wrap_one (by omega)
    have sh : Comes (fun nf _ _ _ => desc_Right_3 nf (List.getD w.2.2.2.1 i (dft tPlace)) ((0 : Int)) (w) (w)) (fun r => r = ((dec (shP w.2.2.2.1 4 (List.getD w.2.2.2.1 i (dft tPlace))), ()), [])) := shallow_spec w hin 4 0 rfl (List.getD w.2.2.2.1 i (dft tPlace)) (hin i hi)
    have hself := hcount (List.getD w.2.2.2.1 i (dft tPlace))
    rw [← wrap_succ (by omega)] at next
    refine Comes.succ1 (fun nf fm0 _ _ => desc_Right.l0_eq nf fm0 _ _ _ _ _ _ _ _ _) ?_
    simp only [hc, ew, k1, hself, Int.toNat_natCast]
    simp [-List.getD_eq_getElem?_getD, -List.length_eq_zero_iff, keepAll, freshHas, pathEq, eqPl_dec, wrap1, wrap0, nbeq, hi, k2, hg i hi, caps_at w.1 (hg i hi), comes_call (sh), (sh).prop]
    refine ⟨fun h => ⟨i, Nat.le_refl i, hi, fun hst => absurd hst.1 (Int.not_le.2 h)⟩, fun h => ⟨fun hsh => ?_, fun hsh => ⟨i, Nat.le_refl i, hi, fun hst => hsh hst.2⟩⟩⟩
    refine next.mono (fun v hv => ?_)
    rw [hv]
    have e : (∀ j, i + 1 ≤ j → j < List.length (w.2.2.2.1 : List (den tPlace)) → stepP w j) = (∀ j, i ≤ j → j < List.length (w.2.2.2.1 : List (den tPlace)) → stepP w j) := propext ⟨fun hj j a b => by
      by_cases e : j = i
      · subst e; exact ⟨h, hsh⟩
      · exact hj j (by omega) b, fun hj j a b => hj j (by omega) b⟩
    rw [e]
theorem dright_spec (w : den tWorld) (hs : Sm w) : Comes (fun nf _ _ _ => desc_Right nf (w)) (fun r => r = ((dec (RightP w), ()), [])) := by
  have h1 := hs.a; have h2 := hs.wc; have h3 := hs.wh
  by_cases m : MayP w.1
  rotate_left
  · refine Comes.succ (fun nf _ _ _ => desc_Right.eq nf _) ?_
    simp [-List.getD_eq_getElem?_getD, -List.length_eq_zero_iff, keepAll, freshHas, pathEq, eqPl_dec, wrap1, wrap0, nbeq, comes_call (dmay_spec w.1 hs.d), (dmay_spec w.1 hs.d).prop, m]
    exact fun h => m h.may
  by_cases a1 : List.length (w.2.1 : List Int) = List.length (w.1.2.1 : List Int)
  rotate_left
  · refine Comes.succ (fun nf _ _ _ => desc_Right.eq nf _) ?_
    simp [-List.getD_eq_getElem?_getD, -List.length_eq_zero_iff, keepAll, freshHas, pathEq, eqPl_dec, wrap1, wrap0, nbeq, comes_call (dmay_spec w.1 hs.d), (dmay_spec w.1 hs.d).prop, m, show ¬ (List.length (w.2.1 : List Int) : Int) = (List.length (w.1.2.1 : List Int) : Int) by omega]
    exact fun h => a1 h.a1
  by_cases c1 : List.length (w.2.2.1 : List Int) = List.length (w.1.2.1 : List Int)
  rotate_left
  · refine Comes.succ (fun nf _ _ _ => desc_Right.eq nf _) ?_
    simp [-List.getD_eq_getElem?_getD, -List.length_eq_zero_iff, keepAll, freshHas, pathEq, eqPl_dec, wrap1, wrap0, nbeq, comes_call (dmay_spec w.1 hs.d), (dmay_spec w.1 hs.d).prop, m, a1, show ¬ (List.length (w.2.2.1 : List Int) : Int) = (List.length (w.1.2.1 : List Int) : Int) by omega]
    exact fun h => c1 h.c1
  by_cases w1 : List.length (w.2.2.2.1 : List (den tPlace)) = List.length (w.1.2.2.2.1 : List Int)
  rotate_left
  · refine Comes.succ (fun nf _ _ _ => desc_Right.eq nf _) ?_
    simp [-List.getD_eq_getElem?_getD, -List.length_eq_zero_iff, keepAll, freshHas, pathEq, eqPl_dec, wrap1, wrap0, nbeq, comes_call (dmay_spec w.1 hs.d), (dmay_spec w.1 hs.d).prop, m, a1, c1, show ¬ (List.length (w.2.2.2.1 : List (den tPlace)) : Int) = (List.length (w.1.2.2.2.1 : List Int) : Int) by omega]
    exact fun h => w1 h.w1
  have s1 := all_v4 w.2.1 h1 w.1
  have s2 := all_v2 w.2.2.1 h2
  have s3 := all_pl w.2.2.2.1 h3 w.1 m.b1
  by_cases r1 : ∀ j, j < List.length (w.2.1 : List Int) → pRoom (List.getD (w.2.1 : List Int) j 0) w.1
  rotate_left
  · rw [dec_false.2 r1] at s1
    rw [dec_false.2 (fun h : RightP w => r1 (fun j hj => (h.at_ j hj).1))]
    refine Comes.succ (fun nf _ _ _ => desc_Right.eq nf _) ?_
    simp [-List.getD_eq_getElem?_getD, -List.length_eq_zero_iff, keepAll, freshHas, pathEq, eqPl_dec, wrap1, wrap0, nbeq, comes_call (dmay_spec w.1 hs.d), (dmay_spec w.1 hs.d).prop, comes_call (s1), (s1).prop, m, a1, c1, w1]
  rw [dec_true.2 r1] at s1
  by_cases r2 : ∀ j, j < List.length (w.2.2.1 : List Int) → pCoin (List.getD (w.2.2.1 : List Int) j 0)
  rotate_left
  · rw [dec_false.2 r2] at s2
    rw [dec_false.2 (fun h : RightP w => r2 (fun j hj => (h.at_ j (by omega)).2))]
    refine Comes.succ (fun nf _ _ _ => desc_Right.eq nf _) ?_
    simp [-List.getD_eq_getElem?_getD, -List.length_eq_zero_iff, keepAll, freshHas, pathEq, eqPl_dec, wrap1, wrap0, nbeq, comes_call (dmay_spec w.1 hs.d), (dmay_spec w.1 hs.d).prop, comes_call (s1), (s1).prop, comes_call (s2), (s2).prop, m, a1, c1, w1]
  rw [dec_true.2 r2] at s2
  by_cases r3 : ∀ j, j < List.length (w.2.2.2.1 : List (den tPlace)) → pPl (List.getD w.2.2.2.1 j (dft tPlace)) w.1
  rotate_left
  · rw [dec_false.2 r3] at s3
    rw [dec_false.2 (fun h : RightP w => r3 (fun j hj => h.good j hj))]
    refine Comes.succ (fun nf _ _ _ => desc_Right.eq nf _) ?_
    simp [-List.getD_eq_getElem?_getD, -List.length_eq_zero_iff, keepAll, freshHas, pathEq, eqPl_dec, wrap1, wrap0, nbeq, comes_call (dmay_spec w.1 hs.d), (dmay_spec w.1 hs.d).prop, comes_call (s1), (s1).prop, comes_call (s2), (s2).prop, comes_call (s3), (s3).prop, m, a1, c1, w1]
  rw [dec_true.2 r3] at s3
  have l0 := (dright_l0 w hs (fun i hi => (r3 i hi).kind) (fun i hi => (r3 i hi).inPl w1) w false w.1 0 (Nat.zero_le _) [] (fun p => rfl)).enter
  have e : (∀ j, 0 ≤ j → j < List.length (w.2.2.2.1 : List (den tPlace)) → stepP w j) = RightP w := propext ⟨fun h => ⟨m, a1, c1, w1, fun i hi => ⟨r1 i hi, r2 i (by omega)⟩, r3, fun i hi => ⟨?_, ?_⟩⟩, fun h j _ hj => ⟨?_, ?_⟩⟩
  · rw [e] at l0
    refine Comes.succ (fun nf _ _ _ => desc_Right.eq nf _) ?_
    simp [-List.getD_eq_getElem?_getD, -List.length_eq_zero_iff, keepAll, freshHas, pathEq, eqPl_dec, wrap1, wrap0, nbeq, comes_call (dmay_spec w.1 hs.d), (dmay_spec w.1 hs.d).prop, comes_call (s1), (s1).prop, comes_call (s2), (s2).prop, comes_call (s3), (s3).prop, m, a1, c1, w1]
    rw [w1] at l0
    exact l0
  · have := (sh_iff w.2.2.2.1 4 51 0 rfl (by decide) (List.getD w.2.2.2.1 i (dft tPlace))).1 (h i (Nat.zero_le i) hi).2
    omega
  · obtain ⟨j, g1, g2, g3⟩ := many_last w.2.2.2.1 (List.getD w.2.2.2.1 i (dft tPlace)) (List.length (w.2.2.2.1 : List (den tPlace))) i hi rfl
    have := (h j (Nat.zero_le j) g1).1
    rw [g2, ← g3] at this
    exact this
  · have := (h.deep j hj).2
    have := many_mono w.2.2.2.1 (List.getD w.2.2.2.1 j (dft tPlace)) (j + 1) (List.length (w.2.2.2.1 : List (den tPlace))) hj
    omega
  · exact (sh_iff w.2.2.2.1 4 51 0 rfl (by decide) (List.getD w.2.2.2.1 j (dft tPlace))).2 (by have := (h.deep j hj).1; omega)
end Go.Proofs.Ytkjcmjfdkmnikaa.Ghost
