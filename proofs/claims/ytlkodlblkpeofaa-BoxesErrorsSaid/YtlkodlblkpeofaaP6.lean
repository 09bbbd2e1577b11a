/- What functions come to, and that the statements are answered with 'true'. Conditions: none. -/
import Derived.Test.YtlkodlblkpeofaaS
import Derived.Test.YtlkodlblkpeofaaGE
import Derived.Test.YtlkodlblkpeofaaP1
import Derived.Test.YtlkodlblkpeofaaP2
import Derived.Test.YtlkodlblkpeofaaP3
import Derived.Test.YtlkodlblkpeofaaP4
import Derived.Test.YtlkodlblkpeofaaP5
set_option linter.unusedVariables false
set_option linter.unusedSimpArgs false
set_option linter.unusedSectionVars false
set_option linter.unnecessarySimpa false
namespace Go.Proofs.Ytlkodlblkpeofaa.Ghost
open Go
theorem root_iff (w : den tWorld) (j : Nat) (a b : Int) : rootOf w j = (a, b, ()) ↔ (rootOf w j).1 = a ∧ (rootOf w j).2.1 = b :=
  ⟨fun h => by rw [h]; exact ⟨rfl, rfl⟩, fun h => Prod.ext h.1 (Prod.ext h.2 rfl)⟩
theorem is10_spec (w : den tWorld) (k : Int) : Comes (fun nf _ _ _ => innkeepref10_is nf (w) (k)) (fun r => r = ((dec (inR w k), ()), [])) := by
  refine Comes.succ (fun nf _ _ _ => innkeepref10_is.eq nf _ _) ?_
  by_cases h : 0 ≤ k <;> simp [h, inR, decide_dec]
theorem refNear_spec (w : den tWorld) (ok : Ok w) {i j : Nat} (hi : i < List.length (w.2.1 : List Int)) (hj : j < List.length (w.2.2.2.1 : List (den tPlace))) : Comes (fun nf _ _ _ => innkeepref10_Near nf (w) ((i : Int)) ((j : Int))) (fun r => r = ((dec (NearP w i j), ()), [])) := by
  refine Comes.succ (fun nf _ _ _ => innkeepref10_Near.eq nf _ _ _) ?_
  have hn : NearP w i j ↔ (((rootOf w j).1 : Int) = 0 ∧ ((rootOf w j).2.1 : Int) = atOf w i) ∨ (((rootOf w j).1 : Int) = 1 ∧ ((rootOf w j).2.1 : Int) = i) := by
    unfold NearP; rw [root_iff, root_iff]
  simp [-List.getD_eq_getElem?_getD, -List.length_eq_zero_iff, keepAll, freshHas, pathEq, eqPl_dec, wrap1, wrap0, comes_call (refRoot_spec w ok.right 51 j hj (ok.right.ends hj)), (refRoot_spec w ok.right 51 j hj (ok.right.ends hj)).prop, hi, hn, decide_dec]
  by_cases c1 : ((rootOf w j).1 : Int) = 0 <;> by_cases c2 : ((rootOf w j).2.1 : Int) = atOf w i <;> by_cases c3 : ((rootOf w j).1 : Int) = 1 <;> simp [-List.getD_eq_getElem?_getD, -List.length_eq_zero_iff, keepAll, freshHas, pathEq, eqPl_dec, wrap1, wrap0, c1, c2, c3]
section
variable {w : den tWorld} (ok : Ok w) {k b : Nat} (hk : k < List.length (w.2.2.2.1 : List (den tPlace))) (hb : b < List.length (w.2.2.2.1 : List (den tPlace))) (hn : ¬ WiW w b k)
open Classical in
noncomputable def dOf (w : den tWorld) (k b j : Nat) : Nat := if WiW w j k then depOf w b + 1 + (depOf w j - depOf w k) else depOf w j
include ok hk hb hn
theorem hang_d {j : Nat} (hj : j < List.length (w.2.2.2.1 : List (den tPlace))) : ∃ p, Hang (put w k (boxPl (b : Int))).2.2.2.1 j p (dOf w k b j) := by
  have m := moved_box ok.right hk hb hn
  unfold dOf
  by_cases hw : WiW w j k
  · rw [if_pos hw]; exact ⟨_, (m.inn j hj hw).1⟩
  · rw [if_neg hw]; exact ⟨_, m.out j hj hw⟩
theorem d_le {j : Nat} (hj : j < List.length (w.2.2.2.1 : List (den tPlace))) : dOf w k b j ≤ 9 := by
  have h1 := (dep_le ok.right hj).2
  have h2 := (dep_le ok.right hb).2
  unfold dOf
  split <;> omega
theorem depI_d {j : Nat} (hj : j < List.length (w.2.2.2.1 : List (den tPlace))) : depI (put w k (boxPl (b : Int))).2.2.2.1 51 0 (plOf (put w k (boxPl (b : Int))) j) = dOf w k b j := by
  obtain ⟨p, h⟩ := hang_d ok hk hb hn hj
  have := d_le ok hk hb hn hj
  have := h.depI 51 0 (by omega) (by omega)
  rw [Nat.zero_add] at this
  exact this
theorem deep_iff : (∃ j, j < List.length (w.2.2.2.1 : List (den tPlace)) ∧ 4 < dOf w k b j) ↔ 4 < depOf w b + 1 + hgtOf w k := by
  constructor
  · rintro ⟨j, hj, hd⟩
    unfold dOf at hd
    split at hd
    · rename_i hw
      have : depOf w j - depOf w k ≤ hgtOf w k := hgtL_ge (w := w) (i := k) hj hw
      omega
    · have := (dep_le ok.right hj).2
      omega
  · intro h
    rcases hgtL_at (w := w) (i := k) (List.length (w.2.2.2.1 : List (den tPlace))) with h0 | ⟨j, j1, j2, j3⟩
    · have h0 : hgtOf w k = 0 := h0
      refine ⟨k, hk, ?_⟩
      unfold dOf
      rw [if_pos (.refl k)]; omega
    · have j3 : depOf w j - depOf w k = hgtOf w k := j3
      refine ⟨j, j1, ?_⟩
      unfold dOf
      rw [if_pos j2]; omega
theorem inPl_d : ∀ i, i < List.length ((put w k (boxPl (b : Int))).2.2.2.1 : List (den tPlace)) → inPl (put w k (boxPl (b : Int))).2.2.2.1 (List.getD ((put w k (boxPl (b : Int))).2.2.2.1 : List (den tPlace)) i (dft tPlace)) := fun i hi h2 => by
  rw [put_len] at hi ⊢
  rw [put_at w k i _ hk] at h2 ⊢
  split
  · exact ⟨Int.natCast_nonneg b, Int.ofNat_lt.2 hb⟩
  · rename_i hne
    rw [if_neg hne] at h2
    exact ok.right.inPl i hi h2
theorem refPut_l0 (t0 : (den tWorld)) (t1 : Int) (t2 : Int) (t9 : Int) (o1 : (den tWorld)) (hd : ¬ 4 < depOf w b + 1 + hgtOf w k) :
    ∀ i, i ≤ List.length (w.2.2.2.1 : List (den tPlace)) → Comes (fun nf fm0 _ _ => innkeepref10_Put.l0 nf fm0 t0 t1 t2 ((b : Int)) t9 ((i : Int)) (w) o1 (put w k (boxPl (b : Int)))) (fun r => r.1 = if roomI w (boxPl b) < 1 then (w, 9, ()) else (put w k (boxPl (b : Int)), 0, ())) := by
  have hlen := ok.sm.wh
  have hr := ok.right.room (boxPl b)
  refine upto ?_ (fun i hi next => ?_)
  · refine Comes.succ1 (fun nf fm0 _ _ => innkeepref10_Put.l0_eq nf fm0 _ _ _ _ _ _ _ _ _) ?_
    simp [-List.getD_eq_getElem?_getD, -List.length_eq_zero_iff, keepAll, freshHas, pathEq, eqPl_dec, wrap1, wrap0, put_len w k (boxPl (b : Int)), comes_call (refRoom_spec w ok (boxPl (b : Int)) (kind_box b)), (refRoom_spec w ok (boxPl (b : Int)) (kind_box b)).prop]
    by_cases h : roomI w (boxPl b) = 0
    · simp [h]
    · simp [h, show ¬ roomI w (boxPl b) < 1 by omega]
      omega
  · rw [← wrap_succ (by omega)] at next
    have hdi := depI_d ok hk hb hn hi
    have hle : ¬ (4 : Int) < (dOf w k b i : Int) := fun h => hd ((deep_iff ok hk hb hn).1 ⟨i, hi, by omega⟩)
    have sp := depth_spec (put w k (boxPl (b : Int))) (inPl_d ok hk hb hn) (plOf (put w k (boxPl (b : Int))) i) (inPl_d ok hk hb hn i (by rw [put_len]; exact hi))
    rw [hdi] at sp
    refine Comes.succ1 (fun nf fm0 _ _ => innkeepref10_Put.l0_eq nf fm0 _ _ _ _ _ _ _ _ _) ?_
    simp [-List.getD_eq_getElem?_getD, -List.length_eq_zero_iff, keepAll, freshHas, pathEq, eqPl_dec, wrap1, wrap0, put_len w k (boxPl (b : Int)), hi, comes_call (sp), (sp).prop, hle, next]
theorem refPut_l0d (t0 : (den tWorld)) (t1 : Int) (t2 : Int) (t9 : Int) (o1 : (den tWorld)) :
    ∀ i, i ≤ List.length (w.2.2.2.1 : List (den tPlace)) → (∃ j, i ≤ j ∧ j < List.length (w.2.2.2.1 : List (den tPlace)) ∧ 4 < dOf w k b j) → Comes (fun nf fm0 _ _ => innkeepref10_Put.l0 nf fm0 t0 t1 t2 ((b : Int)) t9 ((i : Int)) (w) o1 (put w k (boxPl (b : Int)))) (fun r => r.1 = (w, 8, ())) := by
  have hlen := ok.sm.wh
  refine upto (fun h => ?_) (fun i hi next h => ?_)
  · obtain ⟨j, h1, h2, _⟩ := h; omega
  · have hdi := depI_d ok hk hb hn hi
    have sp := depth_spec (put w k (boxPl (b : Int))) (inPl_d ok hk hb hn) (plOf (put w k (boxPl (b : Int))) i) (inPl_d ok hk hb hn i (by rw [put_len]; exact hi))
    rw [hdi] at sp
    refine Comes.succ1 (fun nf fm0 _ _ => innkeepref10_Put.l0_eq nf fm0 _ _ _ _ _ _ _ _ _) ?_
    by_cases h4 : 4 < dOf w k b i
    · simp [-List.getD_eq_getElem?_getD, -List.length_eq_zero_iff, keepAll, freshHas, pathEq, eqPl_dec, wrap1, wrap0, put_len w k (boxPl (b : Int)), hi, comes_call (sp), (sp).prop]
      omega
    · have next := next (by
        obtain ⟨j, h1, h2, h3⟩ := h
        by_cases e : j = i
        · subst e; exact absurd h3 h4
        · exact ⟨j, by omega, h2, h3⟩)
      rw [← wrap_succ (by omega)] at next
      simp [-List.getD_eq_getElem?_getD, -List.length_eq_zero_iff, keepAll, freshHas, pathEq, eqPl_dec, wrap1, wrap0, put_len w k (boxPl (b : Int)), hi, comes_call (sp), (sp).prop, next, show ¬ (4 : Int) < (dOf w k b i : Int) by omega]
end
theorem refPut_spec {w : den tWorld} (ok : Ok w) {i : Nat} (hi : i < List.length (w.2.1 : List Int)) (k b : Int) : Comes (fun nf _ _ _ => innkeepref10_Put nf (w) ((i : Int)) (k) (b)) (fun r => r.1 = putR w i k b) := by
  refine Comes.succ (fun nf _ _ _ => innkeepref10_Put.eq nf _ _ _ _) ?_
  by_cases hk : inR w k
  · by_cases hb : inR w b
    · obtain ⟨k, rfl, hkn⟩ := inR_nat hk
      obtain ⟨b, rfl, hbn⟩ := inR_nat hb
      have hbx : b < List.length (w.1.2.2.2.2.1 : List Bool) := by rw [ok.right.may.b1, ← ok.right.w1]; exact hbn
      simp [-List.getD_eq_getElem?_getD, -List.length_eq_zero_iff, keepAll, freshHas, pathEq, eqPl_dec, wrap1, wrap0, comes_call (is10_spec w (k : Int)), (is10_spec w (k : Int)).prop, comes_call (is10_spec w (b : Int)), (is10_spec w (b : Int)).prop, hk, hb, hkn, hbx, comes_call (refNear_spec w ok hi hbn), (refNear_spec w ok hi hbn).prop, comes_call (refWithin_iff w ok.right hbn k), (refWithin_iff w ok.right hbn k).bprop, putR, putErr]
      by_cases c1 : plOf w k = mePl i <;> by_cases c2 : NearP w i b <;> by_cases c3 : boxAt w b = true <;> by_cases c4 : WiW w b k <;> simp [-List.getD_eq_getElem?_getD, -List.length_eq_zero_iff, keepAll, freshHas, pathEq, eqPl_dec, wrap1, wrap0, c1, c2, c3, c4]
      simp [-List.getD_eq_getElem?_getD, -List.length_eq_zero_iff, keepAll, freshHas, pathEq, eqPl_dec, wrap1, wrap0, comes_call (refTo_spec w ok.sm hkn (boxPl b)), (refTo_spec w ok.sm hkn (boxPl b)).prop]
      by_cases c5 : 4 < depOf w b + 1 + hgtOf w k
      · obtain ⟨j, h1, h2⟩ := (deep_iff ok hkn hbn c4).2 c5
        have h := fun t0 t1 t2 t9 o1 => (refPut_l0d ok hkn hbn c4 t0 t1 t2 t9 o1 0 (Nat.zero_le _) ⟨j, Nat.zero_le _, h1, h2⟩).enter
        simp [-List.getD_eq_getElem?_getD, -List.length_eq_zero_iff, keepAll, freshHas, pathEq, eqPl_dec, wrap1, wrap0, c5]
        exact h _ _ _ _ _
      · have h := fun t0 t1 t2 t9 o1 => (refPut_l0 ok hkn hbn c4 t0 t1 t2 t9 o1 c5 0 (Nat.zero_le _)).enter
        by_cases c6 : roomI w (boxPl b) < 1
        · simp only [if_pos c6] at h
          simp [-List.getD_eq_getElem?_getD, -List.length_eq_zero_iff, keepAll, freshHas, pathEq, eqPl_dec, wrap1, wrap0, c5, c6]
          exact h _ _ _ _ _
        · simp only [if_neg c6] at h
          simp [-List.getD_eq_getElem?_getD, -List.length_eq_zero_iff, keepAll, freshHas, pathEq, eqPl_dec, wrap1, wrap0, c5, c6]
          exact h _ _ _ _ _
    · simp [-List.getD_eq_getElem?_getD, -List.length_eq_zero_iff, keepAll, freshHas, pathEq, eqPl_dec, wrap1, wrap0, comes_call (is10_spec w k), (is10_spec w k).prop, comes_call (is10_spec w b), (is10_spec w b).prop, hk, hb, putR, putErr]
  · simp [-List.getD_eq_getElem?_getD, -List.length_eq_zero_iff, keepAll, freshHas, pathEq, eqPl_dec, wrap1, wrap0, comes_call (is10_spec w k), (is10_spec w k).prop, comes_call (is10_spec w b), (is10_spec w b).prop, hk, putR, putErr]
theorem refTake_spec {w : den tWorld} (ok : Ok w) {i : Nat} (hi : i < List.length (w.2.1 : List Int)) (k b : Int) : Comes (fun nf _ _ _ => innkeepref10_Take nf (w) ((i : Int)) (k) (b)) (fun r => r.1 = takeR w i k b) := by
  have hr := ok.right.room (mePl i)
  refine Comes.succ (fun nf _ _ _ => innkeepref10_Take.eq nf _ _ _ _) ?_
  by_cases hk : inR w k
  · by_cases hb : inR w b
    · obtain ⟨k, rfl, hkn⟩ := inR_nat hk
      obtain ⟨b, rfl, hbn⟩ := inR_nat hb
      have hbx : b < List.length (w.1.2.2.2.2.1 : List Bool) := by rw [ok.right.may.b1, ← ok.right.w1]; exact hbn
      simp [-List.getD_eq_getElem?_getD, -List.length_eq_zero_iff, keepAll, freshHas, pathEq, eqPl_dec, wrap1, wrap0, comes_call (is10_spec w (k : Int)), (is10_spec w (k : Int)).prop, comes_call (is10_spec w (b : Int)), (is10_spec w (b : Int)).prop, hk, hb, hkn, hbx, comes_call (refNear_spec w ok hi hbn), (refNear_spec w ok hi hbn).prop, comes_call (refRoom_spec w ok (mePl i) (kind_mePl i)), (refRoom_spec w ok (mePl i) (kind_mePl i)).prop, comes_call (refTo_spec w ok.sm hkn (mePl i)), (refTo_spec w ok.sm hkn (mePl i)).prop, takeR, takeErr]
      by_cases c1 : NearP w i b <;> by_cases c2 : boxAt w b = true <;> by_cases c3 : plOf w k = boxPl (b : Int) <;> by_cases c4 : roomI w (mePl i) = 0 <;> simp [-List.getD_eq_getElem?_getD, -List.length_eq_zero_iff, keepAll, freshHas, pathEq, eqPl_dec, wrap1, wrap0, c1, c2, c3, c4]
      intro h; omega
    · simp [-List.getD_eq_getElem?_getD, -List.length_eq_zero_iff, keepAll, freshHas, pathEq, eqPl_dec, wrap1, wrap0, comes_call (is10_spec w k), (is10_spec w k).prop, comes_call (is10_spec w b), (is10_spec w b).prop, hk, hb, takeR, takeErr]
  · simp [-List.getD_eq_getElem?_getD, -List.length_eq_zero_iff, keepAll, freshHas, pathEq, eqPl_dec, wrap1, wrap0, comes_call (is10_spec w k), (is10_spec w k).prop, comes_call (is10_spec w b), (is10_spec w b).prop, hk, takeR, takeErr]
end Go.Proofs.Ytlkodlblkpeofaa.Ghost
