/- KeysKeep: the row. Conditions: none. -/
import Derived.Test.YtobegmljkfphjaaRows
import Derived.Test.YtobegmljkfphjaaProg
import Derived.Test.YtobegmljkfphjaaChecked
import Derived.Test.YtobegmljkfphjaaGK
import Derived.Test.YtobegmljkfphjaaGSk
import Derived.Test.YtobegmljkfphjaaA4
import Derived.Test.YtobegmljkfphjaaP3
import Derived.WalkKit
import Derived.ProofKit
import Derived.OpenShut
import Derived.ShutString
import Derived.ChangeOld
import Derived.Below
import Derived.SizedLaws
namespace Go.Proofs.Ytobegmljkfphjaa.keysKeep
open Go.ChangeShapes Go.WideShapes Go.ChangeAt Go.RowKit
set_option linter.unusedVariables false
theorem own : ownKnob Try.prog.godebug = none := by kernel_rfl
theorem laidOut : laidOutB Try.prog = true := by kernel_rfl
set_option maxRecDepth 100000 in
theorem lifted (os : Os) (started : os.Started) (H : Type) (enc : TypeId × Value → H) :
    ReturnsInHanded {} Try.checked os 6 .any (Rows.keysKeepSpec.pre6 enc Try.prog Try.f6 Rows.keysKeepRow.domain false) (Rows.keysKeepSpec.post enc Try.prog Try.f6 false true false false) := by
  refine returnsInHanded_of_change_sized (C := Try.checked) own started (by kernel_rfl) Try.func6
    (ChangeSpec.witness6 (enc := enc) (C := Try.checked) false ⟨#[], #[.slice none 0 0], []⟩ 8 (by kernel_rfl) (by kernel_rfl) (by kernel_rfl) (by kernel_rfl)) ?_
  intro W base args ds gs before hval0 hW hcnd hsz0 _
  have hval : ∀ (j : Nat) t v, Try.f6.params[j]? = some t → args[j]? = some v → Value.okWide Try.prog W .any base t v := hval0
  have hW' := hW
  obtain ⟨p, q, hA0, hV, rfl, hfz, hnd⟩ := hW
  have hA : DataW.TrodAll enc Try.prog W 0 (fun _ => true) true Try.f6.params.toList args.toList ds p := hA0
  rw [show Try.f6.params.toList = [22] from rfl] at hA
  obtain ⟨v0, vs0, d0, ds0, p0, q0, hargs, rfl, rfl, h0, r0⟩ := trodAll_cons hA
  obtain ⟨rfl, rfl, rfl⟩ := trodAll_nil r0
  obtain rfl : args = #[v0] := by cases args; simp_all
  obtain ⟨rfl, rfl⟩ := trodVars_none hV
  obtain ⟨x0, rx0, wx0⟩ := Ghost.arg_rep (ρ := fun _ => none) (.sl Ghost.tKey) (by kernel_rfl) (by kernel_rfl) (hval 0 22 v0 rfl rfl) h0
  have lt0 : ∀ x ∈ p0, x.block < W.heap.size := by obtain ⟨m, hm⟩ := h0; exact DataW.trod_lt m _ _ _ hm
  obtain ⟨r, hr, n, hn⟩ := Ghost.keysKeep_true x0 wx0
  have hn0 := hn n n n n (Nat.le_refl n) (Nat.le_refl n) (Nat.le_refl n) (Nat.le_refl n)
  obtain ⟨⟨b, ⟨⟩⟩, fr⟩ := r
  have hr : b = true := hr
  subst hr
  have hcalls := Ghost.law_calls (Ghost.gcall_sound Ghost.mixed Ghost.sp_ok Ghost.prog_ok n) (f := 6) hn0 (fun k d h => by cases h) (Ghost.args_cons rx0 Ghost.args_nil)
  refine Calls.mono hcalls fun e W' ⟨he, bel⟩ => ?_
  subst he
  exact ⟨_, rfl, _, _, _, [], _, [], hW', trodAll_mk1 (shut_bool Try.underlying4 _), (trodAll_cons_mk (Below.trod laidOut (by kernel_rfl) (of_decide_eq_true (by kernel_rfl)) h0 bel lt0) trodAll_mk0), rfl, bel.frame _, fun h => by cases h⟩
theorem over : Rows.keysKeepRow.holds Try.pinned (OpenSpec.ofChange Rows.keysKeepSpec) :=
  OpenClaim.holds_of_wide 6 Try.f6 rfl rfl rfl rfl rfl rfl rfl ⟨rfl, rfl, rfl, rfl, rfl⟩ rfl rfl rfl rfl rfl (by kernel_rfl) Try.func6 (by kernel_rfl)
    (of_decide_eq_true (by kernel_rfl)) (by unfold Func.isWrapper; first | (rw [if_pos (by decide +kernel)]; kernel_rfl) | (rw [if_neg (by decide +kernel)]; exact ⟨rfl, rfl⟩))
    (fun os started H enc _ => lifted os started H enc)
end Go.Proofs.Ytobegmljkfphjaa.keysKeep
namespace Go.Proofs.Ytobegmljkfphjaa
/-- The row, under a short name, for the claim. -/
theorem keysKeep_holds : Rows.KeysKeepSaid := keysKeep.over
#print axioms keysKeep_holds
end Go.Proofs.Ytobegmljkfphjaa
