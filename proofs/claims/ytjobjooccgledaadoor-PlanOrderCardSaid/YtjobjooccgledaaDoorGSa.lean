/- The functions whose answers are given do what is said. Conditions: none. -/
import Derived.Test.YtjobjooccgledaaDoorGSp
import Derived.Test.YtjobjooccgledaaDoorA4
import Derived.Test.YtjobjooccgledaaDoorProg
import Derived.KernelRfl
set_option linter.unusedVariables false
set_option linter.unusedSimpArgs false
set_option linter.unusedSectionVars false
set_option linter.unnecessarySimpa false
namespace Go.Proofs.YtjobjooccgledaaDoor.Ghost
open Go
theorem mixed:Tryd.prog.follows .mixedOrders=true:=by kernel_rfl
theorem cloneSp_ok {f:FuncId} {e:Ty} (hc:cloneOk Tryd.prog f e=true) {args:List SV} {res:List Sh} {r:dShL res×Fresh} (h:cloneSp e args res=some r):callable Tryd.prog f=true ∧
    ∀ (w:World) (A:Nat→Prop) (vs:List Value),(∀ b,A b→b<w.heap.size)→GlobOk A w→RepVs A (fun _=>none) w args vs →
      Go.Calls Tryd.prog f vs.toArray w (fun e w'=>∃ vals,e=.returned (bundleV vals)∧ResOk A w w' (injL res r.1) r.2 vals):=by
  unfold cloneSp at h
  split at h
  · rename_i τ x
    split at h
    · rename_i l hl
      have:=castT_spec hl
      cases this
      split at h
      · rename_i hlen
        split at h
        · rename_i y hy
          simp only [Option.some.injEq] at h
          subst h
          have he:=prjL_inj res _ hy
          refine ⟨?_,fun w A vs hA hgl hr => ?_⟩
          · unfold cloneOk at hc
            unfold callable
            cases hf:Tryd.prog.funcs[f]? with
            | none=>rw [hf] at hc; cases hc
            | some fn =>
              rw [hf] at hc
              simp only [Bool.and_eq_true] at hc ⊢
              obtain ⟨⟨c1,c2⟩,c3⟩:=hc
              split at c3
              · rename_i hbd; exact ⟨c1,by rw [hbd]; rfl⟩
              · cases c3
          · have:=(clone_calls mixed hc hlen hA hgl hr).2
            rw [← he]
            exact this
        · cases h
      · cases h
    · cases h
  · cases h
theorem sp0_ok:CallOk Tryd.prog sp0:=fun f args res r h=>by
  unfold sp0 at h
  split at h
  · exact cloneSp_ok (by kernel_rfl) h
  · exact cloneSp_ok (by kernel_rfl) h
  · cases h
end Go.Proofs.YtjobjooccgledaaDoor.Ghost
