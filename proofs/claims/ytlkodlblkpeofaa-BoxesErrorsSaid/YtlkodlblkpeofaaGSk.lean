/- The functions whose answers are given do what is said. Conditions: none. -/
import Derived.Test.YtlkodlblkpeofaaGSp
import Derived.Test.YtlkodlblkpeofaaA4
import Derived.Test.YtlkodlblkpeofaaProg
import Derived.KernelRfl
set_option linter.unusedVariables false
set_option linter.unusedSimpArgs false
set_option linter.unusedSectionVars false
set_option linter.unnecessarySimpa false
namespace Go.Proofs.Ytlkodlblkpeofaa.Ghost
open Go
theorem mixed : Try.prog.follows .mixedOrders = true := by kernel_rfl
theorem cloneSp_ok {f : FuncId} {e : Ty} (hc : cloneOk Try.prog f e = true) {args : List SV} {res : List Sh} {r : dShL res × Fresh} (h : cloneSp e args res = some r) : callable Try.prog f = true ∧
    ∀ (w : World) (A : Nat → Prop) (vs : List Value), (∀ b, A b → b < w.heap.size) → RepVs A (fun _ => none) w args vs →
      Go.Calls Try.prog f vs.toArray w (fun e w' => ∃ vals, e = .returned (bundleV vals) ∧ ResOk A w w' (injL res r.1) r.2 vals) := by
  unfold cloneSp at h
  split at h
  · rename_i τ x
    split at h
    · rename_i l hl
      have := castT_spec hl
      cases this
      split at h
      · rename_i hlen
        split at h
        · rename_i y hy
          simp only [Option.some.injEq] at h
          subst h
          have he := prjL_inj res _ hy
          refine ⟨?_, fun w A vs hA hr => ?_⟩
          · unfold cloneOk at hc
            unfold callable
            cases hf : Try.prog.funcs[f]? with
            | none => rw [hf] at hc; cases hc
            | some fn =>
              rw [hf] at hc
              simp only [Bool.and_eq_true] at hc ⊢
              obtain ⟨⟨c1, c2⟩, c3⟩ := hc
              split at c3
              · rename_i hbd; exact ⟨c1, by rw [hbd]; rfl⟩
              · cases c3
          · have := (clone_calls mixed hc hlen hA hr).2
            rw [← he]
            exact this
        · cases h
      · cases h
    · cases h
  · cases h
theorem callable_of {f : FuncId} {fn : Func} {c : Code} (hf : Try.prog.funcs[f]? = some fn) (hb : fn.body = some c) (hn : (fn.name != "runtime.NumGoroutine") = true) : callable Try.prog f = true := by
  unfold callable
  rw [hf]
  simp only [hb, hn]
  rfl
theorem enter_of {f : FuncId} (hcl : callable Try.prog f = true) (args : Array Value) (w : World) : (callFunc f args).run Try.prog w = .ok (.enter f args) w := by
  unfold callable at hcl
  cases hf : Try.prog.funcs[f]? with
  | none => simp [hf] at hcl
  | some fn =>
    simp only [hf, Bool.and_eq_true, bne_iff_ne, ne_eq] at hcl
    have hn : fn.body.isNone = false := by
      cases hbd : fn.body with
      | none => simp [hbd] at hcl
      | some b => rfl
    simp [callFunc, hf, hcl.1]
    intro hbd
    simp [hbd] at hn
theorem cal_col : callable Try.prog 55 = true := by kernel_rfl
theorem cal_ap : callable Try.prog 59 = true := by kernel_rfl
theorem cal_up1 : callable Try.prog 58 = true := by kernel_rfl
theorem col_code : colOk Try.prog 59 Try.f55 = true := by kernel_rfl
theorem ap_code : apOk Try.prog Try.f59 = true := by kernel_rfl
theorem up1_code : upOk Try.prog Try.f58 = true := by kernel_rfl
theorem collectSp_ok {args : List SV} {res : List Sh} {r : dShL res × Fresh} (h : collectSp args res = some r) : callable Try.prog 55 = true ∧
    ∀ (w : World) (A : Nat → Prop) (vs : List Value), (∀ b, A b → b < w.heap.size) → RepVs A (fun _ => none) w args vs →
      Go.Calls Try.prog 55 vs.toArray w (fun e w' => ∃ vals, e = .returned (bundleV vals) ∧ ResOk A w w' (injL res r.1) r.2 vals) := by
  unfold collectSp at h
  split at h
  case h_2 => cases h
  rename_i g τ x σ i
  split at h
  case h_2 => cases h
  rename_i wd id hg hw hi
  obtain rfl := Nat.eq_of_beq_eq_true hg
  have := castT_spec hw
  cases this
  have := castT_spec hi
  cases this
  split at h
  case isFalse => cases h
  rename_i hin
  split at h
  case h_2 => cases h
  rename_i xs hxs
  split at h
  case h_2 => cases h
  rename_i y hy
  simp only [Option.some.injEq] at h
  subst h
  have hinj := prjL_inj res _ hy
  refine ⟨cal_col, fun w A vs hA hr => ?_⟩
  simp only [RepVs] at hr
  obtain ⟨v, _, rfl, hv, rfl⟩ := hr
  simp only [RepV, RepVs] at hv
  obtain ⟨_, rfl, u1, _, rfl, r1, u2, _, rfl, r2, rfl⟩ := hv
  rw [← hinj]
  exact col_calls Try.func55 col_code Try.func59 ap_code Try.func58 up1_code (enter_of cal_ap) (enter_of cal_up1) hA (by simpa only [RepV] using r1) (by simpa only [RepV] using r2) hin hxs (by decide)
theorem cal_wi : callable Try.prog 31 = true := by kernel_rfl
theorem wi_code : wiOk Try.prog Try.f31 = true := by kernel_rfl
theorem withinSp_ok {args : List SV} {res : List Sh} {r : dShL res × Fresh} (h : withinSp args res = some r) : callable Try.prog 31 = true ∧
    ∀ (w : World) (A : Nat → Prop) (vs : List Value), (∀ b, A b → b < w.heap.size) → RepVs A (fun _ => none) w args vs →
      Go.Calls Try.prog 31 vs.toArray w (fun e w' => ∃ vals, e = .returned (bundleV vals) ∧ ResOk A w w' (injL res r.1) r.2 vals) := by
  unfold withinSp at h
  split at h
  case h_2 => cases h
  rename_i τ x σ i σ' b
  split at h
  case h_2 => cases h
  rename_i wd id bd hw hi hb
  have := castT_spec hw
  cases this
  have := castT_spec hi
  cases this
  have := castT_spec hb
  cases this
  split at h
  case h_2 => cases h
  rename_i q hq
  split at h
  case h_2 => cases h
  rename_i y hy
  simp only [Option.some.injEq] at h
  subst h
  have hinj := prjL_inj res _ hy
  refine ⟨cal_wi, fun w A vs hA hr => ?_⟩
  rw [← hinj]
  refine wi_calls Try.func31 wi_code Try.func58 up1_code (enter_of cal_up1) hA hr ?_
  unfold withinR at hq
  split at hq
  · rename_i e
    simp only [Option.some.injEq] at hq
    exact .inl ⟨e, hq.symm⟩
  · rename_i e
    split at hq
    · rename_i hin
      split at hq
      · rename_i xs hxs
        simp only [Option.some.injEq] at hq
        exact .inr ⟨e, hin, xs, 60, by decide, hxs, hq.symm⟩
      · cases hq
    · cases hq
theorem sp_ok : CallOk Try.prog sp := fun f args res r h => by
  unfold sp at h
  split at h
  · exact cloneSp_ok (by kernel_rfl) h
  · exact cloneSp_ok (by kernel_rfl) h
  · exact collectSp_ok h
  · exact withinSp_ok h
  · cases h
end Go.Proofs.Ytlkodlblkpeofaa.Ghost
