/- What functions come to, and that the statements are answered with 'true'. Conditions: none. -/
import Derived.Test.YtdbogcinhmfmpaaS
import Derived.Test.YtdbogcinhmfmpaaGE
import Derived.Test.YtdbogcinhmfmpaaP1
import Derived.Test.YtdbogcinhmfmpaaP2
import Derived.Test.YtdbogcinhmfmpaaP3
set_option linter.unusedVariables false
set_option linter.unusedSimpArgs false
set_option linter.unusedSectionVars false
set_option linter.unnecessarySimpa false
namespace Go.Proofs.Ytdbogcinhmfmpaa.Ghost
open Go
abbrev plOf (w : den tWorld) (i : Nat) : Pl := List.getD (w.2.2.2.1 : List Pl) i (dft tPlace)
end Go.Proofs.Ytdbogcinhmfmpaa.Ghost
namespace Go.Proofs.Ytdbogcinhmfmpaa.Ghost
open Go
abbrev atOf (w : den tWorld) (i : Nat) : Int := List.getD (w.2.1 : List Int) i (0 : Int)
abbrev coinOf (w : den tWorld) (i : Nat) : Int := List.getD (w.2.2.1 : List Int) i (0 : Int)
abbrev mePl (i : Nat) : Pl := ((1 : Int), (i : Int), ())
theorem kind_mePl (i : Nat) : (0 : Int) ≤ (mePl i).1 ∧ ((mePl i).1 : Int) < 3 := ⟨by show (0 : Int) ≤ 1; decide, by show (1 : Int) < 3; decide⟩
def inR (w : den tWorld) (k : Int) : Prop := 0 ≤ k ∧ k < (List.length (w.2.2.2.1 : List (den tPlace)) : Int)
theorem inR_nat {w : den tWorld} {k : Int} (h : inR w k) : ∃ n : Nat, k = (n : Int) ∧ n < List.length (w.2.2.2.1 : List (den tPlace)) := ⟨k.toNat, by have := h.1; omega, by have := h.1; have := h.2; omega⟩
def inQ (w : den tWorld) (q : Int) : Prop := 0 ≤ q ∧ q < (List.length (w.2.1 : List Int) : Int)
theorem inQ_nat {w : den tWorld} {q : Int} (h : inQ w q) : ∃ n : Nat, q = (n : Int) ∧ n < List.length (w.2.1 : List Int) := ⟨q.toNat, by have := h.1; omega, by have := h.1; have := h.2; omega⟩
theorem gis_spec (w : den tWorld) (k : Int) : Comes (fun nf _ _ _ => gifts_is nf (w) (k)) (fun r => r = ((dec (inR w k), ()), [])) := by
  refine Comes.succ (fun nf _ _ _ => gifts_is.eq nf _ _) ?_
  by_cases h : 0 ≤ k <;> simp [h, inR, decide_dec]
theorem gplayer_spec (w : den tWorld) (k : Int) : Comes (fun nf _ _ _ => gifts_player nf (w) (k)) (fun r => r = ((dec (inQ w k), ()), [])) := by
  refine Comes.succ (fun nf _ _ _ => gifts_player.eq nf _ _) ?_
  by_cases h : 0 ≤ k <;> simp [h, inQ, decide_dec]
theorem gwith_spec (k : Int) : Comes (fun nf _ _ _ => gifts_with nf (k)) (fun r => r = (((1, k, ()), ()), [])) := by
  refine Comes.succ (fun nf _ _ _ => gifts_with.eq nf _) ?_
  simp
/-! ### Giving -/
open Classical in
noncomputable def giveErr (w : den tWorld) (p : Nat) (k q : Int) : Int := if inR w k ∧ inQ w q then
  (if q = (p : Int) then 12 else if atOf w q.toNat = atOf w p ∧ plOf w k.toNat = mePl p then (if roomI w (mePl q.toNat) < 1 then 9 else 0) else 5) else 3
noncomputable def giveR (w : den tWorld) (p : Nat) (k q : Int) : den tWorld × Int × Unit := if giveErr w p k q = 0 then (put w k.toNat (mePl q.toNat), 0, ()) else (w, giveErr w p k q, ())
theorem giveErr_in {w : den tWorld} {p : Nat} {k q : Int} (h : ¬ giveErr w p k q = 3) : inR w k ∧ inQ w q := by
  by_cases hn : inR w k ∧ inQ w q
  · exact hn
  · exact absurd (by unfold giveErr; rw [if_neg hn]) h
theorem give_spec {w : den tWorld} (ok : Ok w) {p : Nat} (hp : p < List.length (w.2.1 : List Int)) (k q : Int) : Comes (fun nf _ _ _ => gifts_Give nf (w) ((p : Int)) (k) (q)) (fun r => r.1 = giveR w p k q) := by
  refine Comes.succ (fun nf _ _ _ => gifts_Give.eq nf _ _ _ _) ?_
  by_cases hk : inR w k
  · by_cases hq : inQ w q
    · obtain ⟨k, rfl, hkn⟩ := inR_nat hk
      obtain ⟨q, rfl, hqn⟩ := inQ_nat hq
      simp [-List.getD_eq_getElem?_getD, -List.length_eq_zero_iff, keepAll, freshHas, pathEq, eqPl_dec, wrap1, wrap0, nbeq, comes_call (gis_spec w (k : Int)), (gis_spec w (k : Int)).prop, comes_call (gplayer_spec w (q : Int)), (gplayer_spec w (q : Int)).prop, hk, hq, hkn, hqn, hp, comes_call (gwith_spec _), (gwith_spec _).prop, comes_call (treeRoom_spec w ok (mePl q) (kind_mePl q)), (treeRoom_spec w ok (mePl q) (kind_mePl q)).prop, comes_call (to_spec w ok.sm hkn (mePl q)), (to_spec w ok.sm hkn (mePl q)).prop, giveR, giveErr]
      by_cases c1 : (q : Int) = (p : Int) <;> by_cases c2 : atOf w q = atOf w p <;> by_cases c3 : plOf w k = mePl p <;> by_cases c4 : roomI w (mePl q) < 1 <;> simp [-List.getD_eq_getElem?_getD, -List.length_eq_zero_iff, keepAll, freshHas, pathEq, eqPl_dec, wrap1, wrap0, nbeq, c1, c2, c3, c4]
    · simp [-List.getD_eq_getElem?_getD, -List.length_eq_zero_iff, keepAll, freshHas, pathEq, eqPl_dec, wrap1, wrap0, nbeq, comes_call (gis_spec w k), (gis_spec w k).prop, comes_call (gplayer_spec w q), (gplayer_spec w q).prop, hk, hq, giveR, giveErr]
  · simp [-List.getD_eq_getElem?_getD, -List.length_eq_zero_iff, keepAll, freshHas, pathEq, eqPl_dec, wrap1, wrap0, nbeq, comes_call (gis_spec w k), (gis_spec w k).prop, hk, giveR, giveErr]
theorem refGive_spec {w : den tWorld} (ok : Ok w) {p : Nat} (hp : p < List.length (w.2.1 : List Int)) (k q : Int) : Comes (fun nf _ _ _ => innkeepref11_Give nf (w) ((p : Int)) (k) (q)) (fun r => r.1 = giveR w p k q) := by
  refine Comes.succ (fun nf _ _ _ => innkeepref11_Give.eq nf _ _ _ _) ?_
  by_cases h1 : k < 0
  · have : ¬ inR w k := fun h => by have := h.1; omega
    simp [h1, giveR, giveErr, this]
  by_cases h2 : (List.length (w.2.2.2.1 : List (den tPlace)) : Int) ≤ k
  · have : ¬ inR w k := fun h => by have := h.2; omega
    simp [h1, h2, giveR, giveErr, this]
  by_cases h3 : q < 0
  · have : ¬ inQ w q := fun h => by have := h.1; omega
    simp [h1, h2, h3, giveR, giveErr, this]
  by_cases h4 : (List.length (w.2.1 : List Int) : Int) ≤ q
  · have : ¬ inQ w q := fun h => by have := h.2; omega
    simp [h1, h2, h3, h4, giveR, giveErr, this]
  have hk : inR w k := ⟨by omega, by omega⟩
  have hq : inQ w q := ⟨by omega, by omega⟩
  obtain ⟨k, rfl, hkn⟩ := inR_nat hk
  obtain ⟨q, rfl, hqn⟩ := inQ_nat hq
  have hr := ok.right.room (mePl q)
  have s1 : ((p : Int) = (q : Int)) = ((q : Int) = (p : Int)) := propext eq_comm
  have s2 : (List.getD (w.2.1 : List Int) p (0 : Int) = List.getD (w.2.1 : List Int) q (0 : Int)) = (List.getD (w.2.1 : List Int) q (0 : Int) = List.getD (w.2.1 : List Int) p (0 : Int)) := propext eq_comm
  simp only [h1, h2, h3, h4, decide_false, cond_false]
  simp [-List.getD_eq_getElem?_getD, -List.length_eq_zero_iff, keepAll, freshHas, pathEq, eqPl_dec, wrap1, wrap0, nbeq, hkn, hqn, hp, hk, hq, comes_call (refRoom_spec w ok (mePl q) (kind_mePl q)), (refRoom_spec w ok (mePl q) (kind_mePl q)).prop, comes_call (refTo_spec w ok.sm hkn (mePl q)), (refTo_spec w ok.sm hkn (mePl q)).prop, giveR, giveErr, s1, s2]
  by_cases c1 : (q : Int) = (p : Int) <;> by_cases c2 : atOf w q = atOf w p <;> by_cases c3 : plOf w k = mePl p <;> by_cases c4 : roomI w (mePl q) = 0 <;> simp [-List.getD_eq_getElem?_getD, -List.length_eq_zero_iff, keepAll, freshHas, pathEq, eqPl_dec, wrap1, wrap0, nbeq, c1, c2, c3, c4, show (roomI w (mePl q) < 1) = (roomI w (mePl q) = 0) from propext ⟨fun h => by omega, fun h => by omega⟩]
end Go.Proofs.Ytdbogcinhmfmpaa.Ghost
