/- FootFew: the row. Conditions: none. -/
import Derived.Test.YtmemggdjnfccfaaRows
import Derived.Test.YtmemggdjnfccfaaProg
import Derived.Test.YtmemggdjnfccfaaChecked
import Derived.Test.YtmemggdjnfccfaaGK
import Derived.Test.YtmemggdjnfccfaaGSk
import Derived.Test.YtmemggdjnfccfaaA4
import Derived.Test.YtmemggdjnfccfaaP7
import Derived.WalkKit
import Derived.ProofKit
import Derived.OpenShut
import Derived.ShutString
import Derived.ChangeOld
import Derived.Below
import Derived.SizedLaws
namespace Go.Proofs.Ytmemggdjnfccfaa.footFew
open Go.ChangeShapes Go.WideShapes Go.ChangeAt Go.RowKit
set_option linter.unusedVariables false
theorem own : ownKnob Try.prog.godebug = none := by kernel_rfl
theorem laidOut : laidOutB Try.prog = true := by kernel_rfl
set_option maxRecDepth 100000 in
theorem lifted (os : Os) (started : os.Started) (H : Type) (enc : TypeId × Value → H) :
    ReturnsInHanded {} Try.checked os 4 .any (Rows.footFewSpec.pre6 enc Try.prog Try.f4 Rows.footFewRow.domain false) (Rows.footFewSpec.post enc Try.prog Try.f4 false true false false) := by
  refine returnsInHanded_of_change_sized (C := Try.checked) own started (by kernel_rfl) Try.func4
    (ChangeSpec.witness6 (enc := enc) (C := Try.checked) false ⟨#[], #[.agg #[.slice none 0 0, .slice none 0 0, .slice none 0 0, .slice none 0 0, .slice none 0 0, .int .i64 0, .int .i64 0, .int .i64 0, .slice none 0 0, .slice none 0 0, .slice none 0 0], .int .u8 0, .agg #[.int .i64 0, .int .i64 0, .int .i64 0, .int .i64 0, .int .i64 0, .slice none 0 0, .int .i64 0, .slice none 0 0, .int .i64 0]], []⟩ 8 (by kernel_rfl) (by kernel_rfl) (by kernel_rfl) (by kernel_rfl)) ?_
  intro W base args ds gs before hval0 hW hcnd hsz0 _
  have hval : ∀ (j : Nat) t v, Try.f4.params[j]? = some t → args[j]? = some v → Value.okWide Try.prog W .any base t v := hval0
  have hW' := hW
  obtain ⟨p, q, hA0, hV, rfl, hfz, hnd⟩ := hW
  have hA : DataW.TrodAll enc Try.prog W 0 (fun _ => true) true Try.f4.params.toList args.toList ds p := hA0
  rw [show Try.f4.params.toList = [29, 5, 31] from rfl] at hA
  obtain ⟨v0, vs0, d0, ds0, p0, q0, hargs, rfl, rfl, h0, r0⟩ := trodAll_cons hA
  obtain ⟨v1, vs1, d1, ds1, p1, q1, rfl, rfl, rfl, h1, r1⟩ := trodAll_cons r0
  obtain ⟨v2, vs2, d2, ds2, p2, q2, rfl, rfl, rfl, h2, r2⟩ := trodAll_cons r1
  obtain ⟨rfl, rfl, rfl⟩ := trodAll_nil r2
  obtain rfl : args = #[v0, v1, v2] := by cases args; simp_all
  obtain ⟨rfl, rfl⟩ := trodVars_none hV
  obtain ⟨x0, rx0, wx0⟩ := Ghost.arg_rep (ρ := fun _ => none) (Ghost.tWorld) (by kernel_rfl) (by kernel_rfl) (hval 0 29 v0 rfl rfl) h0
  have lt0 : ∀ x ∈ p0, x.block < W.heap.size := by obtain ⟨m, hm⟩ := h0; exact DataW.trod_lt m _ _ _ hm
  obtain ⟨x1, rx1, wx1⟩ := Ghost.arg_rep (ρ := fun _ => none) (.int .u8) (by kernel_rfl) (by kernel_rfl) (hval 1 5 v1 rfl rfl) h1
  have lt1 : ∀ x ∈ p1, x.block < W.heap.size := by obtain ⟨m, hm⟩ := h1; exact DataW.trod_lt m _ _ _ hm
  obtain ⟨x2, rx2, wx2⟩ := Ghost.arg_rep (ρ := fun _ => none) (Ghost.tCmd) (by kernel_rfl) (by kernel_rfl) (hval 2 31 v2 rfl rfl) h2
  have lt2 : ∀ x ∈ p2, x.block < W.heap.size := by obtain ⟨m, hm⟩ := h2; exact DataW.trod_lt m _ _ _ hm
  obtain ⟨r, hr, n, hn⟩ := Ghost.footFew_true x0 x1 x2 wx0 wx1 wx2
  have hn0 := hn n n n n (Nat.le_refl n) (Nat.le_refl n) (Nat.le_refl n) (Nat.le_refl n)
  obtain ⟨⟨b, ⟨⟩⟩, fr⟩ := r
  have hr : b = true := hr
  subst hr
  have hcalls := Ghost.law_calls (Ghost.gcall_sound Ghost.mixed Ghost.sp_ok Ghost.prog_ok n) (f := 4) hn0 (fun k d h => by cases h) (Ghost.args_cons rx0 (Ghost.args_cons rx1 (Ghost.args_cons rx2 Ghost.args_nil)))
  refine Calls.mono hcalls fun e W' ⟨he, bel⟩ => ?_
  subst he
  exact ⟨_, rfl, _, _, _, [], _, [], hW', trodAll_mk1 (shut_bool Try.underlying4 _), (trodAll_cons_mk (Below.trod laidOut (by kernel_rfl) (of_decide_eq_true (by kernel_rfl)) h0 bel lt0) (trodAll_cons_mk (Below.trod laidOut (by kernel_rfl) (of_decide_eq_true (by kernel_rfl)) h1 bel lt1) (trodAll_cons_mk (Below.trod laidOut (by kernel_rfl) (of_decide_eq_true (by kernel_rfl)) h2 bel lt2) trodAll_mk0))), rfl, bel.frame _, fun h => by cases h⟩
theorem over : Rows.footFewRow.holds Try.pinned (OpenSpec.ofChange Rows.footFewSpec) :=
  OpenClaim.holds_of_wide 4 Try.f4 rfl rfl rfl rfl rfl rfl rfl ⟨rfl, rfl, rfl, rfl, rfl⟩ rfl rfl rfl rfl rfl (by kernel_rfl) Try.func4 (by kernel_rfl)
    (of_decide_eq_true (by kernel_rfl)) (by unfold Func.isWrapper; first | (rw [if_pos (by decide +kernel)]; kernel_rfl) | (rw [if_neg (by decide +kernel)]; exact ⟨rfl, rfl⟩))
    (fun os started H enc _ => lifted os started H enc)
end Go.Proofs.Ytmemggdjnfccfaa.footFew
namespace Go.Proofs.Ytmemggdjnfccfaa
/-- The row, under a short name, for the claim. -/
theorem footFew_holds : Rows.FootFewSaid := footFew.over
#print axioms footFew_holds
end Go.Proofs.Ytmemggdjnfccfaa
