/- What functions come to, and that the statements are answered with 'true'. Conditions: none. -/
import Derived.Test.YtkoefhpkdghpnaaS
import Derived.Test.YtkoefhpkdghpnaaGE
import Derived.Test.YtkoefhpkdghpnaaP1
import Derived.Test.YtkoefhpkdghpnaaP2
import Derived.Test.YtkoefhpkdghpnaaP3
import Derived.Test.YtkoefhpkdghpnaaP4
import Derived.Test.YtkoefhpkdghpnaaP5
import Derived.Test.YtkoefhpkdghpnaaP6
set_option linter.unusedVariables false
set_option linter.unusedSimpArgs false
set_option linter.unusedSectionVars false
set_option linter.unnecessarySimpa false
namespace Go.Proofs.Ytkoefhpkdghpnaa.Ghost
open Go
theorem fit5_spec (a : Int) : Comes (fun nf _ _ _ => innkeepref05_fit nf (a)) (fun r => r = ((decide (0 ≤ a ∧ a ≤ 1073741824), ()), [])) := by
  refine Comes.succ (fun nf _ _ _ => innkeepref05_fit.eq nf _) ?_
  by_cases h : 0 ≤ a <;> simp [h]
structure MayR (r : den tReply) : Prop where
  e : r.1 = (0 : Int)
  k : 1 ≤ (r.2.1 : Int) ∧ (r.2.1 : Int) ≤ 10
  room : 0 ≤ (r.2.2.1 : Int) ∧ (r.2.2.1 : Int) ≤ 1073741824
  coins : 0 ≤ (r.2.2.2.2.2.1 : Int) ∧ (r.2.2.2.2.2.1 : Int) ≤ 1073741824
  lp : List.length (r.2.2.2.1 : List Int) ≤ 16
  li : List.length (r.2.2.2.2.1 : List (den tSeen)) ≤ 16
  ps : ∀ i, i < List.length (r.2.2.2.1 : List Int) → 0 ≤ List.getD (r.2.2.2.1 : List Int) i (0 : Int) ∧ List.getD (r.2.2.2.1 : List Int) i (0 : Int) ≤ 1073741824
  it : ∀ i, i < List.length (r.2.2.2.2.1 : List (den tSeen)) → (0 ≤ ((List.getD (r.2.2.2.2.1 : List (den tSeen)) i (dft tSeen)).1 : Int) ∧ ((List.getD (r.2.2.2.2.1 : List (den tSeen)) i (dft tSeen)).1 : Int) ≤ 1073741824) ∧
    (0 ≤ ((List.getD (r.2.2.2.2.1 : List (den tSeen)) i (dft tSeen)).2.1.2.1 : Int) ∧ ((List.getD (r.2.2.2.2.1 : List (den tSeen)) i (dft tSeen)).2.1.2.1 : Int) ≤ 1073741824) ∧
    (((List.getD (r.2.2.2.2.1 : List (den tSeen)) i (dft tSeen)).2.1.1 : Int) = 0 ∨ ((List.getD (r.2.2.2.2.1 : List (den tSeen)) i (dft tSeen)).2.1.1 : Int) = 1 ∨ ((List.getD (r.2.2.2.2.1 : List (den tSeen)) i (dft tSeen)).2.1.1 : Int) = 2)
  f1 : (r.2.1 : Int) = 1 ∨ (r.2.1 : Int) = 2 ∨ (r.2.1 : Int) = 9 ∨ (r.2.2.1 : Int) = 0
  f2 : (r.2.1 : Int) = 9 ∨ List.length (r.2.2.2.1 : List Int) = 0
  f3 : 9 ≤ (r.2.1 : Int) ∨ List.length (r.2.2.2.2.1 : List (den tSeen)) = 0
  f4 : (r.2.1 : Int) = 10 ∨ (r.2.2.2.2.2.1 : Int) = 0
theorem may5_l1 {r : den tReply} (h : MayR r) (t0 : den tReply) (t2 : Bool) (t4 : Int) : ∀ i, i ≤ List.length (r.2.2.2.2.1 : List (den tSeen)) → Comes (fun nf fm0 _ _ => innkeepref05_May.l1 nf fm0 t0 t2 (r.2.1) t4 ((i : Int)) (r)) (fun r => r.1.1 = true) :=
  upto (by
    refine Comes.succ1 (fun nf fm0 _ _ => innkeepref05_May.l1_eq nf fm0 _ _ _ _ _ _) ?_
    have h1 := h.f1; have h2 := h.f2; have h3 := h.f3; have h4 := h.f4
    simp [-List.getD_eq_getElem?_getD, -List.length_eq_zero_iff, keepAll, freshHas, pathEq, eqPl, eqPl_f, wrap1, wrap0]
    ((try simp only [lt_to, le_to, eq_to] at *); (try simp only [oLt, oLe, oEq] at *); omega)) (fun i hi next => by
    refine Comes.succ1 (fun nf fm0 _ _ => innkeepref05_May.l1_eq nf fm0 _ _ _ _ _ _) ?_
    have h1 := h.li
    obtain ⟨a, b, c⟩ := h.it i hi
    rw [← wrap_succ (by omega)] at next
    simp [-List.getD_eq_getElem?_getD, -List.length_eq_zero_iff, keepAll, freshHas, pathEq, eqPl, eqPl_f, wrap1, wrap0, comes_call (fit5_spec _), (fit5_spec _).prop, next, hi, a, b]
    ((try simp only [lt_to, le_to, eq_to] at *); (try simp only [oLt, oLe, oEq] at *); omega))
theorem may5_l0 {r : den tReply} (h : MayR r) (t0 : den tReply) (t2 : Bool) : ∀ i, i ≤ List.length (r.2.2.2.1 : List Int) → Comes (fun nf fm0 _ _ => innkeepref05_May.l0 nf fm0 t0 t2 (r.2.1) ((i : Int)) (r)) (fun r => r.1.1 = true) :=
  upto (by
    refine Comes.succ1 (fun nf fm0 _ _ => innkeepref05_May.l0_eq nf fm0 _ _ _ _ _) ?_
    simp [-List.getD_eq_getElem?_getD, -List.length_eq_zero_iff, keepAll, freshHas, pathEq, eqPl, eqPl_f, wrap1, wrap0]
    exact (may5_l1 h t0 t2 _ 0 (Nat.zero_le _)).enter) (fun i hi next => by
    refine Comes.succ1 (fun nf fm0 _ _ => innkeepref05_May.l0_eq nf fm0 _ _ _ _ _) ?_
    have h1 := h.lp
    have a := h.ps i hi
    rw [← wrap_succ (by omega)] at next
    simp [-List.getD_eq_getElem?_getD, -List.length_eq_zero_iff, keepAll, freshHas, pathEq, eqPl, eqPl_f, wrap1, wrap0, comes_call (fit5_spec _), (fit5_spec _).prop, next, hi, a])
theorem may5_spec {r : den tReply} (h : MayR r) : Comes (fun nf _ _ _ => innkeepref05_May nf (r)) (fun r => r.1.1 = true) := by
  refine Comes.succ (fun nf _ _ _ => innkeepref05_May.eq nf _) ?_
  have h1 := h.e; have h2 := h.k; have h3 := h.room; have h4 := h.coins; have h5 := h.lp; have h6 := h.li
  have h0 := (may5_l0 h r false 0 (Nat.zero_le _)).enter
  simp [-List.getD_eq_getElem?_getD, -List.length_eq_zero_iff, keepAll, freshHas, pathEq, eqPl, eqPl_f, wrap1, wrap0, comes_call (fit5_spec _), (fit5_spec _).prop, h1, h3, h4]
  exact ⟨h2.1, fun _ => ⟨h2.2, fun _ => ⟨by omega, fun _ => ⟨by omega, fun _ => h0⟩⟩⟩⟩
end Go.Proofs.Ytkoefhpkdghpnaa.Ghost
