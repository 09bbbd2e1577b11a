/- What functions come to, and that the statements are answered with 'true'. Conditions: none. -/
import Derived.Test.YtlkodlblkpeofaaS
import Derived.Test.YtlkodlblkpeofaaGE
import Derived.Test.YtlkodlblkpeofaaP1
import Derived.Test.YtlkodlblkpeofaaP2
import Derived.Test.YtlkodlblkpeofaaP3
import Derived.Test.YtlkodlblkpeofaaP4
set_option linter.unusedVariables false
set_option linter.unusedSimpArgs false
set_option linter.unusedSectionVars false
set_option linter.unnecessarySimpa false
namespace Go.Proofs.Ytlkodlblkpeofaa.Ghost
open Go
abbrev atOf (w : den tWorld) (i : Nat) : Int := List.getD (w.2.1 : List Int) i (0 : Int)
abbrev flPl (r : Int) : Pl := ((0 : Int), r, ())
abbrev mePl (i : Nat) : Pl := ((1 : Int), (i : Int), ())
abbrev boxAt (w : den tWorld) (b : Nat) : Bool := List.getD (w.1.2.2.2.2.1 : List Bool) b false
def NearP (w : den tWorld) (i j : Nat) : Prop := rootOf w j = flPl (atOf w i) ∨ rootOf w j = mePl i
def inR (w : den tWorld) (k : Int) : Prop := 0 ≤ k ∧ k < (List.length (w.2.2.2.1 : List (den tPlace)) : Int)
open Classical in
noncomputable def putErr (w : den tWorld) (i : Nat) (k b : Int) : Int := if inR w k ∧ inR w b then
  (if plOf w k.toNat = mePl i ∧ NearP w i b.toNat then
    (if boxAt w b.toNat = true then
      (if WiW w b.toNat k.toNat then 7 else if 4 < depOf w b.toNat + 1 + hgtOf w k.toNat then 8 else if roomI w (boxPl b) < 1 then 9 else 0)
    else 6)
  else 5) else 3
open Classical in
noncomputable def takeErr (w : den tWorld) (i : Nat) (k b : Int) : Int := if inR w k ∧ inR w b then
  (if NearP w i b.toNat then
    (if boxAt w b.toNat = true then
      (if plOf w k.toNat = boxPl b then (if roomI w (mePl i) < 1 then 9 else 0) else 5)
    else 6)
  else 5) else 3
open Classical in
noncomputable def putR (w : den tWorld) (i : Nat) (k b : Int) : den tWorld × Int × Unit := if putErr w i k b = 0 then (put w k.toNat (boxPl b), 0, ()) else (w, putErr w i k b, ())
open Classical in
noncomputable def takeR (w : den tWorld) (i : Nat) (k b : Int) : den tWorld × Int × Unit := if takeErr w i k b = 0 then (put w k.toNat (mePl i), 0, ()) else (w, takeErr w i k b, ())
theorem kind_box (b : Int) : (0 : Int) ≤ (boxPl b).1 ∧ ((boxPl b).1 : Int) < 3 := ⟨by show (0 : Int) ≤ 2; decide, by show (2 : Int) < 3; decide⟩
theorem kind_mePl (i : Nat) : (0 : Int) ≤ (mePl i).1 ∧ ((mePl i).1 : Int) < 3 := ⟨by show (0 : Int) ≤ 1; decide, by show (1 : Int) < 3; decide⟩
theorem none_spec (w : den tWorld) (k : Int) : Comes (fun nf _ _ _ => boxes_none nf (w) (k)) (fun r => r = ((dec (¬ inR w k), ()), [])) := by
  refine Comes.succ (fun nf _ _ _ => boxes_none.eq nf _ _) ?_
  by_cases h : k < 0 <;> by_cases h2 : (List.length (w.2.2.2.1 : List (den tPlace)) : Int) ≤ k <;> simp [h, h2, inR] <;> omega
theorem near_spec (w : den tWorld) (ok : Ok w) {i j : Nat} (hi : i < List.length (w.2.1 : List Int)) (hj : j < List.length (w.2.2.2.1 : List (den tPlace))) : Comes (fun nf _ _ _ => boxes_Near nf (w) ((i : Int)) ((j : Int))) (fun r => r = ((dec (NearP w i j), ()), [])) := by
  refine Comes.succ (fun nf _ _ _ => boxes_Near.eq nf _ _ _) ?_
  simp [-List.getD_eq_getElem?_getD, -List.length_eq_zero_iff, keepAll, freshHas, pathEq, eqPl_dec, wrap1, wrap0, comes_call (treeRoot_spec w ok.right hj), (treeRoot_spec w ok.right hj).prop, hi]
  exact ⟨.inl, fun h => ⟨.inr, fun h' => h'.resolve_left h⟩⟩
theorem first_put_in {w : den tWorld} (ok : Ok w) {i k b : Nat} (hi : i < List.length (w.2.1 : List Int)) (hk : k < List.length (w.2.2.2.1 : List (den tPlace))) (hb : b < List.length (w.2.2.2.1 : List (den tPlace))) :
    Comes (fun nf _ _ _ => boxes_first nf (w) ((k : Int)) ((b : Int)) (3) (w) ((k : Int)) (mePl i) ((i : Int)) ((b : Int)) (5) (w) ((b : Int)) (6) (w) ((b : Int)) ((k : Int)) (7) (w) ((b : Int)) ((k : Int)) (8) (w) (boxPl (b : Int)) (9)) (fun r => r = ((putErr w i k b, ()), [])) := by
  have hbx : b < List.length (w.1.2.2.2.2.1 : List Bool) := by rw [ok.right.may.b1, ← ok.right.w1]; exact hb
  have hd := (dep_le ok.right hb).2
  have hh := dep_hgt ok.right hk
  have s1 : Comes (fun nf _ _ _ => boxes_Put_1 nf (w) ((k : Int)) ((b : Int))) (fun r => r = ((false, ()), [])) := by
    refine Comes.succ (fun nf _ _ _ => boxes_Put_1.eq nf _ _ _) ?_
    simp [-List.getD_eq_getElem?_getD, -List.length_eq_zero_iff, keepAll, freshHas, pathEq, eqPl_dec, wrap1, wrap0, comes_call (none_spec w (k : Int)), (none_spec w (k : Int)).prop, comes_call (none_spec w (b : Int)), (none_spec w (b : Int)).prop, inR, hk, hb]
  have s2 : Comes (fun nf _ _ _ => boxes_Put_2 nf (w) ((k : Int)) (mePl i) ((i : Int)) ((b : Int))) (fun r => r = ((dec (¬ (plOf w k = mePl i ∧ NearP w i b)), ()), [])) := by
    refine Comes.succ (fun nf _ _ _ => boxes_Put_2.eq nf _ _ _ _ _) ?_
    simp [-List.getD_eq_getElem?_getD, -List.length_eq_zero_iff, keepAll, freshHas, pathEq, eqPl_dec, wrap1, wrap0, hk, comes_call (near_spec w ok hi hb), (near_spec w ok hi hb).prop]
    by_cases c1 : plOf w k = mePl i <;> by_cases c2 : NearP w i b <;> simp [-List.getD_eq_getElem?_getD, -List.length_eq_zero_iff, keepAll, freshHas, pathEq, eqPl_dec, wrap1, wrap0, c1, c2]
  have s3 : Comes (fun nf _ _ _ => boxes_Put_3 nf (w) ((b : Int))) (fun r => r = ((!boxAt w b, ()), [])) := by
    refine Comes.succ (fun nf _ _ _ => boxes_Put_3.eq nf _ _) ?_
    simp [-List.getD_eq_getElem?_getD, -List.length_eq_zero_iff, keepAll, freshHas, pathEq, eqPl_dec, wrap1, wrap0, hbx]
  have s4 : Comes (fun nf _ _ _ => boxes_Put_4 nf (w) ((b : Int)) ((k : Int))) (fun r => r = ((dec (WiW w b k), ()), [])) := by
    refine Comes.succ (fun nf _ _ _ => boxes_Put_4.eq nf _ _ _) ?_
    simp [-List.getD_eq_getElem?_getD, -List.length_eq_zero_iff, keepAll, freshHas, pathEq, eqPl_dec, wrap1, wrap0, comes_call (treeWithin_iff w ok.right hb k), (treeWithin_iff w ok.right hb k).bprop]
  have s5 : Comes (fun nf _ _ _ => boxes_Put_5 nf (w) ((b : Int)) ((k : Int))) (fun r => r = ((decide (4 < depOf w b + 1 + hgtOf w k), ()), [])) := by
    refine Comes.succ (fun nf _ _ _ => boxes_Put_5.eq nf _ _ _) ?_
    simp [-List.getD_eq_getElem?_getD, -List.length_eq_zero_iff, keepAll, freshHas, pathEq, eqPl_dec, wrap1, wrap0, comes_call (treeDepth_spec w ok.right hb), (treeDepth_spec w ok.right hb).prop, comes_call (treeHeight_spec w ok hk), (treeHeight_spec w ok hk).prop]
    rw [wrap_id (n := (depOf w b : Int) + 1) (by omega) (by omega), wrap_id (by omega) (by omega)]
    omega
  have s6 : Comes (fun nf _ _ _ => boxes_Put_6 nf (w) (boxPl (b : Int))) (fun r => r = ((decide (roomI w (boxPl b) < 1), ()), [])) := by
    refine Comes.succ (fun nf _ _ _ => boxes_Put_6.eq nf _ _) ?_
    simp [-List.getD_eq_getElem?_getD, -List.length_eq_zero_iff, keepAll, freshHas, pathEq, eqPl_dec, wrap1, wrap0, comes_call (treeRoom_spec w ok (boxPl (b : Int)) (kind_box b)), (treeRoom_spec w ok (boxPl (b : Int)) (kind_box b)).prop]
  refine Comes.add 14 (fun nf _ _ _ => boxes_first.eq nf _ _ _ _ _ _ _ _ _ _ _ _ _ _ _ _ _ _ _ _ _ _ _ _) ?_
  simp [-List.getD_eq_getElem?_getD, -List.length_eq_zero_iff, keepAll, freshHas, pathEq, eqPl_dec, wrap1, wrap0, comes_call (s1.shift 13), (s1.shift 13).prop, comes_call (s2.shift 13), (s2.shift 13).prop, comes_call (s3.shift 13), (s3.shift 13).prop, comes_call (s4.shift 13), (s4.shift 13).prop, comes_call (s5.shift 13), (s5.shift 13).prop, comes_call (s6.shift 13), (s6.shift 13).prop, putErr, inR, hk, hb]
  by_cases c1 : plOf w k = mePl i <;> by_cases c2 : NearP w i b <;> by_cases c3 : boxAt w b = true <;> by_cases c4 : WiW w b k <;> by_cases c5 : 4 < depOf w b + 1 + hgtOf w k <;> by_cases c6 : roomI w (boxPl b) < 1 <;> simp [-List.getD_eq_getElem?_getD, -List.length_eq_zero_iff, keepAll, freshHas, pathEq, eqPl_dec, wrap1, wrap0, c1, c2, c3, c4, c5, c6]
theorem inR_nat {w : den tWorld} {k : Int} (h : inR w k) : ∃ n : Nat, k = (n : Int) ∧ n < List.length (w.2.2.2.1 : List (den tPlace)) := ⟨k.toNat, by have := h.1; omega, by have := h.1; have := h.2; omega⟩
theorem first_put {w : den tWorld} (ok : Ok w) {i : Nat} (hi : i < List.length (w.2.1 : List Int)) (k b : Int) : Comes (fun nf _ _ _ => boxes_first nf (w) (k) (b) (3) (w) (k) (mePl i) ((i : Int)) (b) (5) (w) (b) (6) (w) (b) (k) (7) (w) (b) (k) (8) (w) (boxPl b) (9)) (fun r => r = ((putErr w i k b, ()), [])) := by
  by_cases hk : inR w k
  · by_cases hb : inR w b
    · obtain ⟨k, rfl, hkn⟩ := inR_nat hk
      obtain ⟨b, rfl, hbn⟩ := inR_nat hb
      exact first_put_in ok hi hkn hbn
    · refine Comes.add 14 (fun nf _ _ _ => boxes_first.eq nf _ _ _ _ _ _ _ _ _ _ _ _ _ _ _ _ _ _ _ _ _ _ _ _) ?_
      have s1 : Comes (fun nf _ _ _ => boxes_Put_1 nf (w) (k) (b)) (fun r => r = ((true, ()), [])) := by
        refine Comes.succ (fun nf _ _ _ => boxes_Put_1.eq nf _ _ _) ?_
        simp [-List.getD_eq_getElem?_getD, -List.length_eq_zero_iff, keepAll, freshHas, pathEq, eqPl_dec, wrap1, wrap0, comes_call (none_spec w k), (none_spec w k).prop, comes_call (none_spec w b), (none_spec w b).prop, hk, hb]
      simp [-List.getD_eq_getElem?_getD, -List.length_eq_zero_iff, keepAll, freshHas, pathEq, eqPl_dec, wrap1, wrap0, comes_call (s1.shift 13), (s1.shift 13).prop, putErr, hk, hb]
  · refine Comes.add 14 (fun nf _ _ _ => boxes_first.eq nf _ _ _ _ _ _ _ _ _ _ _ _ _ _ _ _ _ _ _ _ _ _ _ _) ?_
    have s1 : Comes (fun nf _ _ _ => boxes_Put_1 nf (w) (k) (b)) (fun r => r = ((true, ()), [])) := by
      refine Comes.succ (fun nf _ _ _ => boxes_Put_1.eq nf _ _ _) ?_
      simp [-List.getD_eq_getElem?_getD, -List.length_eq_zero_iff, keepAll, freshHas, pathEq, eqPl_dec, wrap1, wrap0, comes_call (none_spec w k), (none_spec w k).prop, comes_call (none_spec w b), (none_spec w b).prop, hk]
    simp [-List.getD_eq_getElem?_getD, -List.length_eq_zero_iff, keepAll, freshHas, pathEq, eqPl_dec, wrap1, wrap0, comes_call (s1.shift 13), (s1.shift 13).prop, putErr, hk]
theorem first_take_in {w : den tWorld} (ok : Ok w) {i k b : Nat} (hi : i < List.length (w.2.1 : List Int)) (hk : k < List.length (w.2.2.2.1 : List (den tPlace))) (hb : b < List.length (w.2.2.2.1 : List (den tPlace))) :
    Comes (fun nf _ _ _ => boxes_first_v1 nf (w) ((k : Int)) ((b : Int)) (3) (w) ((i : Int)) ((b : Int)) (5) (w) ((b : Int)) (6) (w) ((k : Int)) (boxPl (b : Int)) (5) (w) (mePl i) (9)) (fun r => r = ((takeErr w i k b, ()), [])) := by
  have hbx : b < List.length (w.1.2.2.2.2.1 : List Bool) := by rw [ok.right.may.b1, ← ok.right.w1]; exact hb
  have s1 : Comes (fun nf _ _ _ => boxes_Take_1 nf (w) ((k : Int)) ((b : Int))) (fun r => r = ((false, ()), [])) := by
    refine Comes.succ (fun nf _ _ _ => boxes_Take_1.eq nf _ _ _) ?_
    simp [-List.getD_eq_getElem?_getD, -List.length_eq_zero_iff, keepAll, freshHas, pathEq, eqPl_dec, wrap1, wrap0, comes_call (none_spec w (k : Int)), (none_spec w (k : Int)).prop, comes_call (none_spec w (b : Int)), (none_spec w (b : Int)).prop, inR, hk, hb]
  have s2 : Comes (fun nf _ _ _ => boxes_Take_2 nf (w) ((i : Int)) ((b : Int))) (fun r => r = ((dec (¬ NearP w i b), ()), [])) := by
    refine Comes.succ (fun nf _ _ _ => boxes_Take_2.eq nf _ _ _) ?_
    simp [-List.getD_eq_getElem?_getD, -List.length_eq_zero_iff, keepAll, freshHas, pathEq, eqPl_dec, wrap1, wrap0, comes_call (near_spec w ok hi hb), (near_spec w ok hi hb).prop]
  have s3 : Comes (fun nf _ _ _ => boxes_Take_3 nf (w) ((b : Int))) (fun r => r = ((!boxAt w b, ()), [])) := by
    refine Comes.succ (fun nf _ _ _ => boxes_Take_3.eq nf _ _) ?_
    simp [-List.getD_eq_getElem?_getD, -List.length_eq_zero_iff, keepAll, freshHas, pathEq, eqPl_dec, wrap1, wrap0, hbx]
  have s4 : Comes (fun nf _ _ _ => boxes_Take_4 nf (w) ((k : Int)) (boxPl (b : Int))) (fun r => r = ((dec (¬ plOf w k = boxPl (b : Int)), ()), [])) := by
    refine Comes.succ (fun nf _ _ _ => boxes_Take_4.eq nf _ _ _) ?_
    simp [-List.getD_eq_getElem?_getD, -List.length_eq_zero_iff, keepAll, freshHas, pathEq, eqPl_dec, wrap1, wrap0, hk]
  have s5 : Comes (fun nf _ _ _ => boxes_Take_5 nf (w) (mePl i)) (fun r => r = ((decide (roomI w (mePl i) < 1), ()), [])) := by
    refine Comes.succ (fun nf _ _ _ => boxes_Take_5.eq nf _ _) ?_
    simp [-List.getD_eq_getElem?_getD, -List.length_eq_zero_iff, keepAll, freshHas, pathEq, eqPl_dec, wrap1, wrap0, comes_call (treeRoom_spec w ok (mePl i) (kind_mePl i)), (treeRoom_spec w ok (mePl i) (kind_mePl i)).prop]
  refine Comes.add 14 (fun nf _ _ _ => boxes_first_v1.eq nf _ _ _ _ _ _ _ _ _ _ _ _ _ _ _ _ _ _) ?_
  simp [-List.getD_eq_getElem?_getD, -List.length_eq_zero_iff, keepAll, freshHas, pathEq, eqPl_dec, wrap1, wrap0, comes_call (s1.shift 13), (s1.shift 13).prop, comes_call (s2.shift 13), (s2.shift 13).prop, comes_call (s3.shift 13), (s3.shift 13).prop, comes_call (s4.shift 13), (s4.shift 13).prop, comes_call (s5.shift 13), (s5.shift 13).prop, takeErr, inR, hk, hb]
  by_cases c1 : NearP w i b <;> by_cases c2 : boxAt w b = true <;> by_cases c3 : plOf w k = boxPl (b : Int) <;> by_cases c4 : roomI w (mePl i) < 1 <;> simp [-List.getD_eq_getElem?_getD, -List.length_eq_zero_iff, keepAll, freshHas, pathEq, eqPl_dec, wrap1, wrap0, c1, c2, c3, c4]
theorem first_take {w : den tWorld} (ok : Ok w) {i : Nat} (hi : i < List.length (w.2.1 : List Int)) (k b : Int) : Comes (fun nf _ _ _ => boxes_first_v1 nf (w) (k) (b) (3) (w) ((i : Int)) (b) (5) (w) (b) (6) (w) (k) (boxPl b) (5) (w) (mePl i) (9)) (fun r => r = ((takeErr w i k b, ()), [])) := by
  by_cases hk : inR w k
  · by_cases hb : inR w b
    · obtain ⟨k, rfl, hkn⟩ := inR_nat hk
      obtain ⟨b, rfl, hbn⟩ := inR_nat hb
      exact first_take_in ok hi hkn hbn
    · refine Comes.add 14 (fun nf _ _ _ => boxes_first_v1.eq nf _ _ _ _ _ _ _ _ _ _ _ _ _ _ _ _ _ _) ?_
      have s1 : Comes (fun nf _ _ _ => boxes_Take_1 nf (w) (k) (b)) (fun r => r = ((true, ()), [])) := by
        refine Comes.succ (fun nf _ _ _ => boxes_Take_1.eq nf _ _ _) ?_
        simp [-List.getD_eq_getElem?_getD, -List.length_eq_zero_iff, keepAll, freshHas, pathEq, eqPl_dec, wrap1, wrap0, comes_call (none_spec w k), (none_spec w k).prop, comes_call (none_spec w b), (none_spec w b).prop, hk, hb]
      simp [-List.getD_eq_getElem?_getD, -List.length_eq_zero_iff, keepAll, freshHas, pathEq, eqPl_dec, wrap1, wrap0, comes_call (s1.shift 13), (s1.shift 13).prop, takeErr, hk, hb]
  · refine Comes.add 14 (fun nf _ _ _ => boxes_first_v1.eq nf _ _ _ _ _ _ _ _ _ _ _ _ _ _ _ _ _ _) ?_
    have s1 : Comes (fun nf _ _ _ => boxes_Take_1 nf (w) (k) (b)) (fun r => r = ((true, ()), [])) := by
      refine Comes.succ (fun nf _ _ _ => boxes_Take_1.eq nf _ _ _) ?_
      simp [-List.getD_eq_getElem?_getD, -List.length_eq_zero_iff, keepAll, freshHas, pathEq, eqPl_dec, wrap1, wrap0, comes_call (none_spec w k), (none_spec w k).prop, comes_call (none_spec w b), (none_spec w b).prop, hk]
    simp [-List.getD_eq_getElem?_getD, -List.length_eq_zero_iff, keepAll, freshHas, pathEq, eqPl_dec, wrap1, wrap0, comes_call (s1.shift 13), (s1.shift 13).prop, takeErr, hk]
theorem putErr_in {w : den tWorld} {i : Nat} {k b : Int} (h : ¬ putErr w i k b = 3) : inR w k ∧ inR w b := by
  by_cases hn : inR w k ∧ inR w b
  · exact hn
  · exact absurd (by unfold putErr; rw [if_neg hn]) h
theorem takeErr_in {w : den tWorld} {i : Nat} {k b : Int} (h : ¬ takeErr w i k b = 3) : inR w k ∧ inR w b := by
  by_cases hn : inR w k ∧ inR w b
  · exact hn
  · exact absurd (by unfold takeErr; rw [if_neg hn]) h
theorem put_spec {w : den tWorld} (ok : Ok w) {i : Nat} (hi : i < List.length (w.2.1 : List Int)) (k b : Int) : Comes (fun nf _ _ _ => boxes_Put nf (w) ((i : Int)) (k) (b)) (fun r => r = (putR w i k b, if putErr w i k b = 0 then [(0, [3])] else [])) := by
  refine Comes.succ (fun nf _ _ _ => boxes_Put.eq nf _ _ _ _) ?_
  simp [-List.getD_eq_getElem?_getD, -List.length_eq_zero_iff, keepAll, freshHas, pathEq, eqPl_dec, wrap1, wrap0, comes_call (first_put ok hi k b), (first_put ok hi k b).prop]
  by_cases h : putErr w i k b = 0
  · obtain ⟨hk, hb⟩ := putErr_in (show ¬ putErr w i k b = 3 by rw [h]; decide)
    obtain ⟨k, rfl, hkn⟩ := inR_nat hk
    simp [-List.getD_eq_getElem?_getD, -List.length_eq_zero_iff, keepAll, freshHas, pathEq, eqPl_dec, wrap1, wrap0, h, comes_call (to_spec w ok.sm hkn (boxPl b)), (to_spec w ok.sm hkn (boxPl b)).prop, putR]
  · simp [-List.getD_eq_getElem?_getD, -List.length_eq_zero_iff, keepAll, freshHas, pathEq, eqPl_dec, wrap1, wrap0, h, putR]
theorem take_spec {w : den tWorld} (ok : Ok w) {i : Nat} (hi : i < List.length (w.2.1 : List Int)) (k b : Int) : Comes (fun nf _ _ _ => boxes_Take nf (w) ((i : Int)) (k) (b)) (fun r => r = (takeR w i k b, [])) := by
  refine Comes.succ (fun nf _ _ _ => boxes_Take.eq nf _ _ _ _) ?_
  simp [-List.getD_eq_getElem?_getD, -List.length_eq_zero_iff, keepAll, freshHas, pathEq, eqPl_dec, wrap1, wrap0, comes_call (first_take ok hi k b), (first_take ok hi k b).prop]
  by_cases h : takeErr w i k b = 0
  · obtain ⟨hk, hb⟩ := takeErr_in (show ¬ takeErr w i k b = 3 by rw [h]; decide)
    obtain ⟨k, rfl, hkn⟩ := inR_nat hk
    simp [-List.getD_eq_getElem?_getD, -List.length_eq_zero_iff, keepAll, freshHas, pathEq, eqPl_dec, wrap1, wrap0, h, comes_call (to_spec w ok.sm hkn (mePl i)), (to_spec w ok.sm hkn (mePl i)).prop, takeR]
  · simp [-List.getD_eq_getElem?_getD, -List.length_eq_zero_iff, keepAll, freshHas, pathEq, eqPl_dec, wrap1, wrap0, h, takeR]
end Go.Proofs.Ytlkodlblkpeofaa.Ghost
