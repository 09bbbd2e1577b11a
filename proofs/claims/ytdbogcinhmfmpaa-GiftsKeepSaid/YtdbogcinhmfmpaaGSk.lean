/- The functions whose answers are given do what is said. Conditions: none. -/
import Derived.Test.YtdbogcinhmfmpaaGSp
import Derived.Test.YtdbogcinhmfmpaaA4
import Derived.Test.YtdbogcinhmfmpaaProg
import Derived.KernelRfl
import Derived.Shelf.Spec.SlicesGrow
set_option linter.unusedVariables false
set_option linter.unusedSimpArgs false
set_option linter.unusedSectionVars false
set_option linter.unnecessarySimpa false
namespace Go.Proofs.Ytdbogcinhmfmpaa.Ghost
open Go
theorem mixed : Try.prog.follows .mixedOrders = true := by kernel_rfl
theorem cloneSp_ok {f : FuncId} {e : Ty} (hc : cloneOk Try.prog f e = true) {args : List SV} {res : List Sh} {r : dShL res × Fresh} (h : cloneSp e args res = some r) : callable Try.prog f = true ∧
    ∀ (w : World) (A : Nat → Prop) (vs : List Value), (∀ b, A b → b < w.heap.size) → RepVs A (fun _ => none) w args vs →
      Go.Calls Try.prog f vs.toArray w (fun e w' => ∃ vals, e = .returned (bundleV vals) ∧ ResOk A w w' (injL res r.1) r.2 vals) := by
  unfold cloneSp at h
  split at h
  · rename_i τ x
    split at h
    · rename_i l hl
      have := castT_spec hl
      cases this
      split at h
      · rename_i hlen
        split at h
        · rename_i y hy
          simp only [Option.some.injEq] at h
          subst h
          have he := prjL_inj res _ hy
          refine ⟨?_, fun w A vs hA hr => ?_⟩
          · unfold cloneOk at hc
            unfold callable
            cases hf : Try.prog.funcs[f]? with
            | none => rw [hf] at hc; cases hc
            | some fn =>
              rw [hf] at hc
              simp only [Bool.and_eq_true] at hc ⊢
              obtain ⟨⟨c1, c2⟩, c3⟩ := hc
              split at c3
              · rename_i hbd; exact ⟨c1, by rw [hbd]; rfl⟩
              · cases c3
          · have := (clone_calls mixed hc hlen hA hr).2
            rw [← he]
            exact this
        · cases h
      · cases h
    · cases h
  · cases h
def growRen : Go.Shelf.Ren := ⟨fun n => bif Nat.beq n 4 then 49 else n, fun n => match n with | 22 => 23 | 25 => 3 | 9 => 9 | 20 => 20 | 4 => 4 | 3 => 3 | n => n, fun n => n⟩
theorem growLays : Lays8.n4 Try.prog growRen where
  mixed := mixed
  f4 := ⟨Try.f49.name, by kernel_rfl, by kernel_rfl⟩
  t0 := by kernel_rfl
  a0 := fun w => by kernel_rfl
  z0 := fun w => by kernel_rfl
  v0 := fun w => by kernel_rfl
  t3 := by kernel_rfl
  a3 := fun w => by kernel_rfl
  z3 := fun w => by kernel_rfl
  v3 := fun w => by kernel_rfl
  t4 := by kernel_rfl
  a4 := fun w => by kernel_rfl
  z4 := fun w => by kernel_rfl
  v4 := fun w => by kernel_rfl
  t9 := by kernel_rfl
  a9 := fun w => by kernel_rfl
  z9 := fun w => by kernel_rfl
  v9 := fun w => by kernel_rfl
  t20 := by kernel_rfl
  a20 := fun w => by kernel_rfl
  z20 := fun w => by kernel_rfl
  v20 := fun w => by kernel_rfl
  t22 := by kernel_rfl
  a22 := fun w => by kernel_rfl
  z22 := fun w => by kernel_rfl
  v22 := fun w => by kernel_rfl
noncomputable def growInfo : TypeInfo := (Try.prog.info? 3).getD default
theorem growNil : GrowNil Try.prog 49 := by
  refine ⟨by kernel_rfl, fun n w hn => ?_⟩
  by_cases h0 : n = 0
  · subst h0
    refine Calls.mono (Any8.slices_Grow_room growLays none 0 0 0 w (Nat.le_refl _) (by decide) (by decide) (by decide)) (fun e w' h => .inl h)
  · refine Calls.mono (Any8.slices_Grow_grow growLays growInfo (.int .i64 0) (by kernel_rfl) (by kernel_rfl) (by decide +kernel) none 0 0 n [] w (Nat.le_refl _) (by omega) ?_ (by omega) rfl (fun _ => rfl) (fun a h => by cases h)) (fun e w' h => .inr ?_)
    · have hb : growInfo.bytes = 8 := by kernel_rfl
      rw [hb]; omega
    · obtain ⟨rfl, rfl⟩ := h
      have hge := Go.grownCap_ge w (0 + n) 0 3
      refine ⟨_, _, _, rfl, ?_, rfl⟩
      rw [Array.size_append, Array.size_append]
      rw [Go.size_zeroCells, Go.size_zeroCells, show (Value.int IntKind.i64 0).cells.size = 1 from rfl]
      show 0 + (0 + n - 0) * 1 + (grownCap w (0 + n) 0 3 - (0 + n)) * 1 = _
      show _ = grownCap w (0 + n) 0 3
      omega
theorem catSp_ok {args : List SV} {res : List Sh} {r : dShL res × Fresh} (h : catSp args res = some r) : callable Try.prog 33 = true ∧
    ∀ (w : World) (A : Nat → Prop) (vs : List Value), (∀ b, A b → b < w.heap.size) → RepVs A (fun _ => none) w args vs →
      Go.Calls Try.prog 33 vs.toArray w (fun e w' => ∃ vals, e = .returned (bundleV vals) ∧ ResOk A w w' (injL res r.1) r.2 vals) := by
  unfold catSp at h
  split at h
  case h_2 => cases h
  rename_i τ x
  split at h
  case h_2 => cases h
  rename_i a b hx
  have := castT_spec hx
  cases this
  split at h
  case isFalse => cases h
  rename_i hl
  split at h
  case h_2 => cases h
  rename_i y hy
  simp only [Option.some.injEq] at h
  subst h
  have hinj := prjL_inj res _ hy
  refine ⟨by kernel_rfl, fun w A vs hA hr => ?_⟩
  rw [← hinj]
  exact (cat_calls mixed (by kernel_rfl) growNil hl.1 hl.2 hA hr).2
theorem sp_ok : CallOk Try.prog sp := fun f args res r h => by
  unfold sp at h
  split at h
  · exact cloneSp_ok (by kernel_rfl) h
  · exact cloneSp_ok (by kernel_rfl) h
  · exact catSp_ok h
  · cases h
end Go.Proofs.Ytdbogcinhmfmpaa.Ghost
