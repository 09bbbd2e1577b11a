/- The functions whose answers are given do what is said. Conditions: none. -/
import Derived.Test.YtkjcmjfdkmnikaaGSp
import Derived.Test.YtkjcmjfdkmnikaaA4
import Derived.Test.YtkjcmjfdkmnikaaProg
import Derived.KernelRfl
set_option linter.unusedVariables false
set_option linter.unusedSimpArgs false
set_option linter.unusedSectionVars false
set_option linter.unnecessarySimpa false
namespace Go.Proofs.Ytkjcmjfdkmnikaa.Ghost
open Go
theorem mixed : Try.prog.follows .mixedOrders = true := by kernel_rfl
theorem cloneSp_ok {f : FuncId} {e : Ty} (hc : cloneOk Try.prog f e = true) {args : List SV} {res : List Sh} {r : dShL res × Fresh} (h : cloneSp e args res = some r) : callable Try.prog f = true ∧
    ∀ (w : World) (A : Nat → Prop) (vs : List Value), (∀ b, A b → b < w.heap.size) → RepVs A (fun _ => none) w args vs →
      Go.Calls Try.prog f vs.toArray w (fun e w' => ∃ vals, e = .returned (bundleV vals) ∧ ResOk A w w' (injL res r.1) r.2 vals) := by
  unfold cloneSp at h
  split at h
  · rename_i τ x
    split at h
    · rename_i l hl
      have := castT_spec hl
      cases this
      split at h
      · rename_i hlen
        split at h
        · rename_i y hy
          simp only [Option.some.injEq] at h
          subst h
          have he := prjL_inj res _ hy
          refine ⟨?_, fun w A vs hA hr => ?_⟩
          · unfold cloneOk at hc
            unfold callable
            cases hf : Try.prog.funcs[f]? with
            | none => rw [hf] at hc; cases hc
            | some fn =>
              rw [hf] at hc
              simp only [Bool.and_eq_true] at hc ⊢
              obtain ⟨⟨c1, c2⟩, c3⟩ := hc
              split at c3
              · rename_i hbd; exact ⟨c1, by rw [hbd]; rfl⟩
              · cases c3
          · have := (clone_calls mixed hc hlen hA hr).2
            rw [← he]
            exact this
        · cases h
      · cases h
    · cases h
  · cases h
theorem sp_ok : CallOk Try.prog sp := fun f args res r h => by
  unfold sp at h
  split at h
  · exact cloneSp_ok (by kernel_rfl) h
  · exact cloneSp_ok (by kernel_rfl) h
  · cases h
end Go.Proofs.Ytkjcmjfdkmnikaa.Ghost
