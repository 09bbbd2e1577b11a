/- What functions come to, and that the statements are answered with 'true'. Conditions: none. -/
import Derived.Test.YtapeeipnjpihcaaDoorS
import Derived.Test.YtapeeipnjpihcaaDoorGE
import Derived.Test.YtapeeipnjpihcaaDoorP1
import Derived.Test.YtapeeipnjpihcaaDoorP2
import Derived.Test.YtapeeipnjpihcaaDoorP3
import Derived.Test.YtapeeipnjpihcaaDoorP4
import Derived.Test.YtapeeipnjpihcaaDoorP5
import Derived.Test.YtapeeipnjpihcaaDoorP6
set_option linter.unusedVariables false
set_option linter.unusedSimpArgs false
set_option linter.unusedSectionVars false
set_option linter.unnecessarySimpa false
namespace Go.Proofs.YtapeeipnjpihcaaDoor.Ghost
open Go
theorem nameAt_out0 {k : Int} (h : ¬ (1 ≤ k ∧ k ≤ 10)) : nameAt glob0 k = (⟨#[]⟩ : ByteArray) := by
  by_cases h0 : k = 0
  · subst h0; rfl
  · unfold nameAt
    rw [if_neg (by rw [show List.length (glob0 : List ByteArray) = 11 from rfl]; omega)]
theorem nameAt_out1 {k : Int} (h : ¬ (0 ≤ k ∧ k ≤ 3)) : nameAt glob1 k = (⟨#[]⟩ : ByteArray) := by
  unfold nameAt
  rw [if_neg (by rw [show List.length (glob1 : List ByteArray) = 4 from rfl]; omega)]
theorem rName_spec (k : Int) : Comes (fun nf _ _ _ => innkeepref03_Name nf (k)) (fun r => r = ((nameAt glob0 k, ()), [])) := by
  by_cases h : 1 ≤ k ∧ k ≤ 10
  · rcases kinds_cases k h with rfl | rfl | rfl | rfl | rfl | rfl | rfl | rfl | rfl | rfl <;> exact Comes.one 60 (by kernel_rfl) rfl
  · rw [nameAt_out0 h]
    refine Comes.succ (fun nf _ _ _ => innkeepref03_Name.eq nf _) ?_
    by_cases h1 : k < 1
    · simp [h1]
    · simp [h1, show 10 < k by omega]
theorem rWay_spec (k : Int) : Comes (fun nf _ _ _ => innkeepref03_Way nf (k)) (fun r => r = ((nameAt glob1 k, ()), [])) := by
  by_cases h : 0 ≤ k ∧ k ≤ 3
  · rcases ways_cases k h with rfl | rfl | rfl | rfl <;> exact Comes.one 60 (by kernel_rfl) rfl
  · rw [nameAt_out1 h]
    refine Comes.succ (fun nf _ _ _ => innkeepref03_Way.eq nf _) ?_
    simp [show ¬ k = 0 by omega, show ¬ k = 1 by omega, show ¬ k = 2 by omega, show ¬ k = 3 by omega]
theorem rKind_no (s : ByteArray) (h : ∀ k : Int, 1 ≤ k ∧ k ≤ 10 → ¬ nameAt glob0 k = s) : Comes (fun nf _ _ _ => innkeepref03_Kind nf (s)) (fun r => r.1 = (0, false, ())) := by
  have l0 : ∀ (t2 : Int) (t3 : Bool), ∀ i : Nat, i ≤ 11 → 1 ≤ i → Comes (fun nf fm0 _ _ => innkeepref03_Kind.l0 nf fm0 (s) t2 t3 ((i : Int))) (fun r => r.1 = (0, false, ())) := by
    intros
    rename_i i hi h1
    revert h1
    revert i
    refine upto (fun _ => ?_) (fun i hi next h1 => ?_)
    · refine Comes.succ1 (fun nf fm0 _ _ => innkeepref03_Kind.l0_eq nf fm0 _ _ _ _) ?_
      simp
    · have next := next (by omega)
      rw [← wrap_succ (by omega)] at next
      refine Comes.succ1 (fun nf fm0 _ _ => innkeepref03_Kind.l0_eq nf fm0 _ _ _ _) ?_
      simp only [decide_eq_true (show (i : Int) ≤ 10 by omega), cond_true, comes_call (rName_spec (i : Int)), (rName_spec (i : Int)).prop, eqStr_dec, dec_false.2 (h (i : Int) (by omega)), cond_false]
      exact next
  refine Comes.succ (fun nf _ _ _ => innkeepref03_Kind.eq nf _) ?_
  exact (l0 _ _ 1 (by omega) (by omega)).enter
theorem rDir_no (s : ByteArray) (h : ∀ k : Int, 0 ≤ k ∧ k ≤ 3 → ¬ nameAt glob1 k = s) : Comes (fun nf _ _ _ => innkeepref03_Dir nf (s)) (fun r => r.1 = (0, false, ())) := by
  have l0 : ∀ (t2 : Int) (t3 : Bool), ∀ i : Nat, i ≤ 4 → Comes (fun nf fm0 _ _ => innkeepref03_Dir.l0 nf fm0 (s) t2 t3 ((i : Int))) (fun r => r.1 = (0, false, ())) := by
    intros
    rename_i i hi
    revert i
    refine upto ?_ (fun i hi next => ?_)
    · refine Comes.succ1 (fun nf fm0 _ _ => innkeepref03_Dir.l0_eq nf fm0 _ _ _ _) ?_
      simp
    · rw [← wrap_succ (by omega)] at next
      refine Comes.succ1 (fun nf fm0 _ _ => innkeepref03_Dir.l0_eq nf fm0 _ _ _ _) ?_
      simp only [decide_eq_true (show (i : Int) < 4 by omega), cond_true, comes_call (rWay_spec (i : Int)), (rWay_spec (i : Int)).prop, eqStr_dec, dec_false.2 (h (i : Int) (by omega)), cond_false]
      exact next
  refine Comes.succ (fun nf _ _ _ => innkeepref03_Dir.eq nf _) ?_
  exact (l0 _ _ 0 (by omega)).enter
theorem nameAt_get (l : List ByteArray) {k : Nat} (h : k < l.length) : nameAt l (k : Int) = List.getD l k (dft .str) := by
  unfold nameAt
  rw [if_pos ⟨Int.natCast_nonneg k, Int.ofNat_lt.2 h⟩, Int.toNat_natCast]
theorem kind_both (s : ByteArray) : ∃ x : Int × Bool × Unit, Comes (fun nf _ _ _ => cmd_Kind nf (s)) (fun r => r = (x, [])) ∧ Comes (fun nf _ _ _ => innkeepref03_Kind nf (s)) (fun r => r.1 = x) ∧ (x.2.1 = true → nameAt glob0 x.1 = s) := by
  by_cases h : ∃ k : Int, (1 ≤ k ∧ k ≤ 10) ∧ nameAt glob0 k = s
  · obtain ⟨k, hk, rfl⟩ := h
    rcases kinds_cases k hk with rfl | rfl | rfl | rfl | rfl | rfl | rfl | rfl | rfl | rfl <;> exact ⟨(_, true, ()), Comes.one 60 (by kernel_rfl) rfl, Comes.one 60 (r := ((_, true, ()), [])) (by kernel_rfl) rfl, fun _ => rfl⟩
  · have h : ∀ k : Int, 1 ≤ k ∧ k ≤ 10 → ¬ nameAt glob0 k = s := fun k hk e => h ⟨k, hk, e⟩
    refine ⟨(0, false, ()), ?_, rKind_no s h, fun e => by cases e⟩
    refine Comes.succ (fun nf _ _ _ => cmd_Kind.eq nf _) ?_
    refine Comes.call (number_spec glob0 s (by decide)) (fun v hv => ?_)
    rcases hv with ⟨k, g1, ⟨g2, g3, _⟩, _⟩ | ⟨_, g⟩
    · exfalso
      have g2' : k < 11 := g2
      by_cases h0 : k = 0
      · subst h0; exact g1 g3.symm
      · exact h (k : Int) (by omega) (by rw [nameAt_get glob0 g2]; exact g3)
    · rw [g]; exact Comes.ret rfl
theorem dir_both (s : ByteArray) : ∃ x : Int × Bool × Unit, Comes (fun nf _ _ _ => cmd_Dir nf (s)) (fun r => r = (x, [])) ∧ Comes (fun nf _ _ _ => innkeepref03_Dir nf (s)) (fun r => r.1 = x) ∧ (x.2.1 = true → nameAt glob1 x.1 = s) := by
  by_cases h : ∃ k : Int, (0 ≤ k ∧ k ≤ 3) ∧ nameAt glob1 k = s
  · obtain ⟨k, hk, rfl⟩ := h
    rcases ways_cases k hk with rfl | rfl | rfl | rfl <;> exact ⟨(_, true, ()), Comes.one 60 (by kernel_rfl) rfl, Comes.one 60 (r := ((_, true, ()), [])) (by kernel_rfl) rfl, fun _ => rfl⟩
  · have h : ∀ k : Int, 0 ≤ k ∧ k ≤ 3 → ¬ nameAt glob1 k = s := fun k hk e => h ⟨k, hk, e⟩
    refine ⟨(0, false, ()), ?_, rDir_no s h, fun e => by cases e⟩
    refine Comes.succ (fun nf _ _ _ => cmd_Dir.eq nf _) ?_
    refine Comes.call (number_spec glob1 s (by decide)) (fun v hv => ?_)
    rcases hv with ⟨k, g1, ⟨g2, g3, _⟩, _⟩ | ⟨_, g⟩
    · exfalso
      have g2' : k < 4 := g2
      exact h (k : Int) (by omega) (by rw [nameAt_get glob1 g2]; exact g3)
    · rw [g]; exact Comes.ret rfl
theorem cmdNames_true (n : Int) (s : ByteArray) (_ : wfD (.int .i64) n) (_ : wfD .str s) : Comes (fun nf _ _ _ => innkeeplaw03_CmdNames nf (n) (s)) (fun r => r.1.1 = true) := by
  obtain ⟨⟨x1, x2, ⟨⟩⟩, k1, k2, k3⟩ := kind_both s
  obtain ⟨⟨y1, y2, ⟨⟩⟩, d1, d2, d3⟩ := dir_both s
  refine Comes.succ (fun nf _ _ _ => innkeeplaw03_CmdNames.eq nf _ _) ?_
  simp only [comes_call (awake03), (awake03).prop, Bool.not_true, cond_false]
  by_cases hs : 100 < ((ByteArray.size s : Nat) : Int)
  · simp only [decide_eq_true hs, cond_true, comes_call (awake03), (awake03).prop, comes_ret]
  · simp only [decide_eq_false hs, cond_false, comes_call (k1), (k1).prop, comes_call (k2), (k2).prop, comes_call (d1), (d1).prop, comes_call (d2), (d2).prop, comes_call (cName_spec n), (cName_spec n).prop, comes_call (rName_spec n), (rName_spec n).prop, comes_call (cWay_spec n), (cWay_spec n).prop, comes_call (rWay_spec n), (rWay_spec n).prop, eqStr_dec, dec_True, Bool.not_true, decide_true, eqT_bool, beq_self_eq_true]
    cases x2 with
    | false =>
      cases y2 with
      | false => simp only [Bool.not_false, cond_true, comes_ret]
      | true => simp only [Bool.not_false, Bool.not_true, cond_true, cond_false, comes_call (cWay_spec y1), (cWay_spec y1).prop, comes_ret, dec_true.2 (d3 rfl)]
    | true =>
      cases y2 with
      | false => simp only [Bool.not_false, Bool.not_true, cond_true, cond_false, comes_call (cName_spec x1), (cName_spec x1).prop, comes_ret, dec_true.2 (k3 rfl)]
      | true => simp only [Bool.not_true, cond_true, cond_false, comes_call (cName_spec x1), (cName_spec x1).prop, comes_call (cWay_spec y1), (cWay_spec y1).prop, comes_ret, dec_true.2 (k3 rfl), dec_true.2 (d3 rfl)]
end Go.Proofs.YtapeeipnjpihcaaDoor.Ghost
