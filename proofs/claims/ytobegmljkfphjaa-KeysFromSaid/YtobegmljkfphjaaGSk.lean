/- The functions whose answers are given do what is said. Conditions: none. -/
import Derived.Test.YtobegmljkfphjaaGSp
import Derived.Test.YtobegmljkfphjaaA4
import Derived.Test.YtobegmljkfphjaaProg
import Derived.KernelRfl
import Derived.Test.YtobegmljkfphjaaKT
set_option linter.unusedVariables false
set_option linter.unusedSimpArgs false
set_option linter.unusedSectionVars false
set_option linter.unnecessarySimpa false
namespace Go.Proofs.Ytobegmljkfphjaa.Ghost
open Go
theorem mixed : Try.prog.follows .mixedOrders = true := by kernel_rfl
theorem sortSp_ok {args : List SV} {res : List Sh} {r : dShL res × Fresh} (h : sortSp args res = some r) : callable Try.prog 12 = true ∧
    ∀ (w : World) (A : Nat → Prop) (vs : List Value), (∀ b, A b → b < w.heap.size) → GlobOk A w → RepVs A (fun _ => none) w args vs →
      Go.Calls Try.prog 12 vs.toArray w (fun e w' => ∃ vals, e = .returned (bundleV vals) ∧ ResOk A w w' (injL res r.1) r.2 vals) := by
  unfold sortSp at h
  split at h
  case h_2 => cases h
  rename_i τ x
  split at h
  case h_2 => cases h
  rename_i l hx
  have := castT_spec hx
  cases this
  split at h
  case isFalse => cases h
  rename_i hl
  split at h
  case h_2 => cases h
  rename_i y hy
  simp only [Option.some.injEq] at h
  subst h
  have hinj := prjL_inj res _ hy
  refine ⟨by kernel_rfl, fun w A vs hA hgl hr => ?_⟩
  rw [← hinj]
  exact (sort_calls mixed (by kernel_rfl) sorts_ok hl hA hgl hr).2
theorem sp_ok : CallOk Try.prog sp := fun f args res r h => by
  unfold sp at h
  split at h
  · exact sortSp_ok h
  · cases h
end Go.Proofs.Ytobegmljkfphjaa.Ghost
