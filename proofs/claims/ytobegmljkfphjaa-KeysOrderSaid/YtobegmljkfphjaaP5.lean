/- What functions come to, and that the statements are answered with 'true'. Conditions: none. -/
import Derived.Test.YtobegmljkfphjaaS
import Derived.Test.YtobegmljkfphjaaGE
import Derived.Test.YtobegmljkfphjaaP1
import Derived.Test.YtobegmljkfphjaaP2
import Derived.Test.YtobegmljkfphjaaP3
import Derived.Test.YtobegmljkfphjaaP4
set_option linter.unusedVariables false
set_option linter.unusedSimpArgs false
set_option linter.unusedSectionVars false
set_option linter.unnecessarySimpa false
namespace Go.Proofs.Ytobegmljkfphjaa.Ghost
open Go
theorem few14 (d : den tDesc) : ∃ b : Bool, (b = true → List.length d.1 ≤ 20 ∧ List.length d.2.1 ≤ 20) ∧ Comes (fun nf _ _ _ => innkeepref06_Few nf ((d, ([] : List Int), ([] : List Int), ([] : List (den tKey)), ()))) (fun r => r = ((b, ()), [])) := by
  refine ⟨decide (((List.length d.1 : Nat) : Int) ≤ 20) && (decide (((List.length d.2.1 : Nat) : Int) ≤ 20) && (decide (((List.length d.2.2.1 : Nat) : Int) ≤ 20) && (decide (((List.length d.2.2.2.1 : Nat) : Int) ≤ 40) && decide (((List.length d.2.2.2.2.1 : Nat) : Int) ≤ 40)))), fun h => ?_, ?_⟩
  · simp only [Bool.and_eq_true, decide_eq_true_eq] at h
    omega
  · refine Comes.succ (fun nf _ _ _ => innkeepref06_Few.eq nf _) ?_
    by_cases a : ((List.length d.1 : Nat) : Int) ≤ 20
    · by_cases b : ((List.length d.2.1 : Nat) : Int) ≤ 20
      · by_cases c : ((List.length d.2.2.1 : Nat) : Int) ≤ 20
        · by_cases e : ((List.length d.2.2.2.1 : Nat) : Int) ≤ 40
          · by_cases f : ((List.length d.2.2.2.2.1 : Nat) : Int) ≤ 40
            · simp only [a, b, c, e, f, decide_true, decide_false, cond_true, cond_false, comes_ret, Bool.true_and, Bool.and_false, List.length_nil]; exact Comes.ret rfl
            · simp only [a, b, c, e, f, decide_true, decide_false, cond_true, cond_false, comes_ret, Bool.true_and, Bool.and_false]
          · simp only [a, b, c, e, decide_true, decide_false, cond_true, cond_false, comes_ret, Bool.true_and, Bool.false_and, Bool.and_false]
        · simp only [a, b, c, decide_true, decide_false, cond_true, cond_false, comes_ret, Bool.true_and, Bool.false_and, Bool.and_false]
      · simp only [a, b, decide_true, decide_false, cond_true, cond_false, comes_ret, Bool.true_and, Bool.false_and, Bool.and_false]
    · simp only [a, decide_true, decide_false, cond_true, cond_false, comes_ret, Bool.true_and, Bool.false_and, Bool.and_false]
theorem keysPlace_true (d : den tDesc) (k : den tKey) (p : Int) (_ : wfD tDesc d) (_ : wfD tKey k) (_ : wfD (.int .i64) p) : Comes (fun nf _ _ _ => innkeeplaw14_KeysPlace nf (d) (k) (p)) (fun r => r.1.1 = true) := by
  obtain ⟨b, hb, few⟩ := few14 d
  refine Comes.succ (fun nf _ _ _ => innkeeplaw14_KeysPlace.eq nf _ _ _) ?_
  cases b
  · simp only [comes_call (awake14), (awake14).prop, comes_call (few), (few).prop, Bool.not_true, Bool.not_false, cond_true, cond_false, comes_ret]
  · obtain ⟨h1, h2⟩ := hb rfl
    have w : IntKind.wrap .i64 (((List.length d.1 : Nat) : Int) + ((List.length d.2.1 : Nat) : Int)) = ((List.length d.1 : Nat) : Int) + ((List.length d.2.1 : Nat) : Int) := wrap_id (by omega) (by omega)
    have ap := at_plc (ex := ((List.length d.1 : Nat) : Int)) (pl := ((List.length d.2.1 : Nat) : Int)) (by omega) (by omega) k
    have pa := plc_at (ex := ((List.length d.1 : Nat) : Int)) (pl := ((List.length d.2.1 : Nat) : Int)) (p := p) (by omega) (by omega)
    have s1 := kplace_spec h1 h2 k
    have s2 := rplace_spec h1 h2 k
    have s3 := at_spec h1 h2 p
    have s4 := many_spec h1 h2
    have s5 := rplace_spec h1 h2 (atK (List.length d.1 : Nat) (List.length d.2.1 : Nat) p)
    have s6 := at_spec h1 h2 (plc (List.length d.1 : Nat) (List.length d.2.1 : Nat) k.1 k.2.1)
    simp only [comes_call (awake14), (awake14).prop, comes_call (few), (few).prop, comes_call (s1), (s1).prop, comes_call (s2), (s2).prop, comes_call (s3), (s3).prop, comes_call (s4), (s4).prop, w, Bool.not_true, Bool.not_false, cond_true, cond_false, comes_ret, decide_true]
    by_cases hp : 0 ≤ p ∧ p < ((List.length d.1 : Nat) : Int) + ((List.length d.2.1 : Nat) : Int)
    · have ok : atOk (List.length d.1 : Nat) (List.length d.2.1 : Nat) p = true := decide_eq_true hp
      have e := pa hp
      rcases ap with ⟨a1, a2⟩ | ⟨a1, a2, a3⟩
      · simp only [ok, hp.1, hp.2, decide_true, eqb, Bool.not_true, Bool.not_false, cond_true, cond_false, comes_ret, comes_call (s5), (s5).prop, e, comes_call (s6), (s6).prop, a2]
        rw [a1]; exact Comes.ret rfl
      · simp only [ok, hp.1, hp.2, decide_true, eqb, Bool.not_true, Bool.not_false, cond_true, cond_false, comes_ret, comes_call (s5), (s5).prop, e, comes_call (s6), (s6).prop, a1, a2, a3, eqKey_dec, dec_true]
    · have ok : atOk (List.length d.1 : Nat) (List.length d.2.1 : Nat) p = false := decide_eq_false hp
      have z : atK (List.length d.1 : Nat) (List.length d.2.1 : Nat) p = (0, 0, ()) := if_neg hp
      have z' : eqT tKey ((0, 0, ()) : den tKey) (0, 0, ()) = true := rfl
      by_cases h0 : 0 ≤ p
      · have hp2 : ¬ p < ((List.length d.1 : Nat) : Int) + ((List.length d.2.1 : Nat) : Int) := fun h => hp ⟨h0, h⟩
        rcases ap with ⟨a1, a2⟩ | ⟨a1, a2, a3⟩
        · simp only [ok, h0, hp2, z, z', decide_true, decide_false, eqb, Bool.not_true, Bool.not_false, cond_true, cond_false, comes_ret, comes_call (s6), (s6).prop, a2]
          rw [a1]; exact Comes.ret rfl
        · simp only [ok, h0, hp2, z, z', decide_true, decide_false, eqb, Bool.not_true, Bool.not_false, cond_true, cond_false, comes_ret, comes_call (s6), (s6).prop, a1, a2, a3, eqKey_dec, dec_true]
      · rcases ap with ⟨a1, a2⟩ | ⟨a1, a2, a3⟩
        · simp only [ok, h0, z, z', decide_true, decide_false, eqb, Bool.not_true, Bool.not_false, cond_true, cond_false, comes_ret, comes_call (s6), (s6).prop, a2]
          rw [a1]; exact Comes.ret rfl
        · simp only [ok, h0, z, z', decide_true, decide_false, eqb, Bool.not_true, Bool.not_false, cond_true, cond_false, comes_ret, comes_call (s6), (s6).prop, a1, a2, a3, eqKey_dec, dec_true]
end Go.Proofs.Ytobegmljkfphjaa.Ghost
