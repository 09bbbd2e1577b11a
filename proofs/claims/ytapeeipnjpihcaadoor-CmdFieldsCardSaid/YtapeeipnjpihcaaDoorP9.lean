/- What functions come to, and that the statements are answered with 'true'. Conditions: none. -/
import Derived.Test.YtapeeipnjpihcaaDoorS
import Derived.Test.YtapeeipnjpihcaaDoorGE
import Derived.Test.YtapeeipnjpihcaaDoorP1
import Derived.Test.YtapeeipnjpihcaaDoorP2
import Derived.Test.YtapeeipnjpihcaaDoorP3
import Derived.Test.YtapeeipnjpihcaaDoorP4
import Derived.Test.YtapeeipnjpihcaaDoorP5
import Derived.Test.YtapeeipnjpihcaaDoorP6
import Derived.Test.YtapeeipnjpihcaaDoorP7
import Derived.Test.YtapeeipnjpihcaaDoorP8
set_option linter.unusedVariables false
set_option linter.unusedSimpArgs false
set_option linter.unusedSectionVars false
set_option linter.unnecessarySimpa false
namespace Go.Proofs.YtapeeipnjpihcaaDoor.Ghost
open Go
theorem fields_l0 (c : Cm) (v : Int) (L : List Cm) (H : List Bool) (W : List Int) (hL : L.length = 5) (hH : H.length = 5) (hW : W.length = 5) (hg : ∀ i, i < 5 → (cGives (List.getD L i (dft tCmd))).length ≤ 1048576) (hw : ∀ i, i < 5 → (cWants (List.getD L i (dft tCmd))).length ≤ 1048576)
    (h : ∀ i, i < 5 → (MayC (List.getD L i (dft tCmd)) ↔ (List.getD H i false = true ∨ v = 0)) ∧ (List.getD L i (dft tCmd) = c ↔ v = List.getD W i 0)) (t0 : (den tCmd)) (t1 : Int) (t4 : Bool) : ∀ i : Nat, i ≤ 5 → Comes (fun nf fm0 _ _ => innkeeplaw03_CmdFields.l0 nf fm0 t0 t1 t4 (v) ((i : Int)) (c) (L) (H) (W)) (fun r => r.1.1 = true) := by
  refine upto ?_ (fun i hi next => ?_)
  · refine Comes.succ1 (fun nf fm0 _ _ => innkeeplaw03_CmdFields.l0_eq nf fm0 _ _ _ _ _ _ _ _ _) ?_
    simp
  · rw [← wrap_succ (by omega)] at next
    obtain ⟨e1, e2⟩ := h i hi
    have s1 := cmay_spec (List.getD L i (dft tCmd)) (hg i hi) (hw i hi)
    have s2 := csame_spec (List.getD L i (dft tCmd)) c (hg i hi) (hw i hi)
    rw [show MayC (List.getD L i (dft tCmd)) = _ from propext e1] at s1
    rw [show (List.getD L i (dft tCmd) = c) = _ from propext e2] at s2
    refine Comes.succ1 (fun nf fm0 _ _ => innkeeplaw03_CmdFields.l0_eq nf fm0 _ _ _ _ _ _ _ _ _) ?_
    cases hb : List.getD H i false with
    | true =>
      rw [hb] at s1
      simp [-List.getD_eq_getElem?_getD, -List.length_eq_zero_iff, keepAll, freshHas, pathEq, eqPl_dec, wrap1, wrap0, nbeq, hL, hH, hW, hi, comes_call (s1), (s1).prop, hb, comes_call (s2), (s2).prop, decide_dec, show (i : Int) < 5 by omega, next]
    | false =>
      rw [hb] at s1
      simp [-List.getD_eq_getElem?_getD, -List.length_eq_zero_iff, keepAll, freshHas, pathEq, eqPl_dec, wrap1, wrap0, nbeq, hL, hH, hW, hi, comes_call (s1), (s1).prop, hb, comes_call (s2), (s2).prop, decide_dec, show (i : Int) < 5 by omega, next]
theorem fitP_set {n v : Int} {has : Prop} (h : fitP n has) (hv : fit1 v) : fitP v has ↔ (has ∨ v = 0) := by
  rw [fitP_eq]
  by_cases hh : has
  · exact ⟨fun _ => .inl hh, fun _ => ⟨fun _ => hv, fun g => absurd hh g⟩⟩
  · exact ⟨fun g => .inr (g.2 hh), fun g => ⟨fun a => absurd a hh, fun _ => g.resolve_left hh⟩⟩
theorem cmdFields_true (c : Cm) (p : Int) (_ : wfD tCmd c) (hp : wfD (.int .u32) p) : Comes (fun nf _ _ _ => innkeeplaw03_CmdFields nf (c) (p)) (fun r => r.1.1 = true) := by
  by_cases f : FewC c
  rotate_left
  · refine Comes.succ (fun nf _ _ _ => innkeeplaw03_CmdFields.eq nf _ _) ?_
    simp only [comes_call (awake03), (awake03).prop, comes_call (fewC_spec c), (fewC_spec c).prop, dec_false.2 f, Bool.not_true, Bool.not_false, cond_true, cond_false, comes_ret]
  have h1 : (cGives c).length ≤ 1048576 := by have := f.1; omega
  have h2 : (cWants c).length ≤ 1048576 := by have := f.2; omega
  by_cases m : MayC c
  rotate_left
  · refine Comes.succ (fun nf _ _ _ => innkeeplaw03_CmdFields.eq nf _ _) ?_
    simp only [comes_call (awake03), (awake03).prop, comes_call (fewC_spec c), (fewC_spec c).prop, comes_call (mayC_spec c h1 h2), (mayC_spec c h1 h2).bprop, dec_true.2 f, dec_false.2 m, Bool.not_true, Bool.not_false, cond_true, cond_false, comes_ret]
  have fdec := dec_true.2 f
  have mdec := dec_true.2 m
  obtain ⟨v, ev, hv⟩ : ∃ v : Int, IntKind.wrap .i64 (Int.tmod p 1073741824) = v ∧ fit1 v := by
    refine ⟨_, rfl, ?_⟩
    have h0 : IntKind.u32.min ≤ p ∧ p ≤ IntKind.u32.max := hp
    have e1 : IntKind.u32.min = 0 := rfl
    rw [Int.tmod_eq_emod_of_nonneg (by omega)]
    have g1 := Int.emod_nonneg p (show (1073741824 : Int) ≠ 0 by decide)
    have g2 := Int.emod_lt_of_pos p (show (0 : Int) < 1073741824 by decide)
    rw [wrap_id (by omega) (by omega)]
    exact ⟨g1, by omega⟩
  have base := fun (H : List Bool) (hH : H.length = 5) (h0 : List.getD H 0 false = true ↔ (3 ≤ cKind c ∧ cKind c ≤ 7)) (h1' : List.getD H 1 false = true ↔ (cKind c = 5 ∨ cKind c = 6)) (h2' : List.getD H 2 false = true ↔ (cKind c = 2 ∨ cKind c = 7 ∨ cKind c = 8)) (h3 : List.getD H 3 false = true ↔ cKind c = 8) (h4 : List.getD H 4 false = true ↔ cKind c = 8) (t0 t1 t4) =>
    (fields_l0 c v [(cKind c, cDir c, v, cBox c, cWho c, cGives c, cPay c, cWants c, cFee c, ()), (cKind c, cDir c, cItem c, v, cWho c, cGives c, cPay c, cWants c, cFee c, ()), (cKind c, cDir c, cItem c, cBox c, v, cGives c, cPay c, cWants c, cFee c, ()), (cKind c, cDir c, cItem c, cBox c, cWho c, cGives c, v, cWants c, cFee c, ()), (cKind c, cDir c, cItem c, cBox c, cWho c, cGives c, cPay c, cWants c, v, ())] H [cItem c, cBox c, cWho c, cPay c, cFee c] rfl hH rfl
      (fun i hi => by
        have : i = 0 ∨ i = 1 ∨ i = 2 ∨ i = 3 ∨ i = 4 := by omega
        rcases this with rfl | rfl | rfl | rfl | rfl <;> exact h1)
      (fun i hi => by
        have : i = 0 ∨ i = 1 ∨ i = 2 ∨ i = 3 ∨ i = 4 := by omega
        rcases this with rfl | rfl | rfl | rfl | rfl <;> exact h2)
      (fun i hi => by
        have : i = 0 ∨ i = 1 ∨ i = 2 ∨ i = 3 ∨ i = 4 := by omega
        obtain ⟨kd, dir, item, box, who, gives, pay, wants, fee, ⟨⟩⟩ := c
        rcases this with rfl | rfl | rfl | rfl | rfl
        · rw [h0, ← fitP_set m.item hv]
          exact ⟨⟨fun g => g.item, fun g => ⟨m.k1, m.k2, m.d1, m.d2, m.d3, g, m.box, m.who, m.pay, m.fee, m.gives, m.wants⟩⟩, ⟨fun g => congrArg cItem g, fun g => by rw [g]; rfl⟩⟩
        · rw [h1', ← fitP_set m.box hv]
          exact ⟨⟨fun g => g.box, fun g => ⟨m.k1, m.k2, m.d1, m.d2, m.d3, m.item, g, m.who, m.pay, m.fee, m.gives, m.wants⟩⟩, ⟨fun g => congrArg cBox g, fun g => by rw [g]; rfl⟩⟩
        · rw [h2', ← fitP_set m.who hv]
          exact ⟨⟨fun g => g.who, fun g => ⟨m.k1, m.k2, m.d1, m.d2, m.d3, m.item, m.box, g, m.pay, m.fee, m.gives, m.wants⟩⟩, ⟨fun g => congrArg cWho g, fun g => by rw [g]; rfl⟩⟩
        · rw [h3, ← fitP_set m.pay hv]
          exact ⟨⟨fun g => g.pay, fun g => ⟨m.k1, m.k2, m.d1, m.d2, m.d3, m.item, m.box, m.who, g, m.fee, m.gives, m.wants⟩⟩, ⟨fun g => congrArg cPay g, fun g => by rw [g]; rfl⟩⟩
        · rw [h4, ← fitP_set m.fee hv]
          exact ⟨⟨fun g => g.fee, fun g => ⟨m.k1, m.k2, m.d1, m.d2, m.d3, m.item, m.box, m.who, m.pay, g, m.gives, m.wants⟩⟩, ⟨fun g => congrArg cFee g, fun g => by rw [g]; rfl⟩⟩)
      t0 t1 t4 0 (Nat.zero_le _)).enter
  refine Comes.succ (fun nf _ _ _ => innkeeplaw03_CmdFields.eq nf _ _) ?_
  simp only [comes_call (awake03), (awake03).prop, comes_call (fewC_spec c), (fewC_spec c).prop, comes_call (mayC_spec c h1 h2), (mayC_spec c h1 h2).bprop, fdec, mdec, Bool.not_true, cond_true, cond_false, ev]
  have hk : ∃ k : Int, c.1 = k ∧ (k = 1 ∨ k = 2 ∨ k = 3 ∨ k = 4 ∨ k = 5 ∨ k = 6 ∨ k = 7 ∨ k = 8 ∨ k = 9 ∨ k = 10) := ⟨_, rfl, kinds_cases _ ⟨m.k1, m.k2⟩⟩
  obtain ⟨k, ek, hk⟩ := hk
  have ek' : cKind c = k := ek
  rw [ek'] at base
  rcases hk with rfl | rfl | rfl | rfl | rfl | rfl | rfl | rfl | rfl | rfl <;> simp [ek]
  all_goals exact base _ rfl (by simp) (by simp) (by simp) (by simp) (by simp) _ _ _
end Go.Proofs.YtapeeipnjpihcaaDoor.Ghost
