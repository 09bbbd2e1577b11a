/- The functions whose answers are given do what is said. Conditions: none. -/
import Derived.Test.YtjobjooccgledaaGreatDoorGSp
import Derived.Test.YtjobjooccgledaaGreatDoorA4
import Derived.Test.YtjobjooccgledaaGreatDoorProg
import Derived.KernelRfl
set_option linter.unusedVariables false
set_option linter.unusedSimpArgs false
set_option linter.unusedSectionVars false
set_option linter.unnecessarySimpa false
namespace Go.Proofs.YtjobjooccgledaaGreatDoor.Ghost
open Go
theorem mixed:Tryz.prog.follows .mixedOrders=true:=by kernel_rfl
theorem P7 {f:FuncId} {e:Ty} (hc:D6 Tryz.prog f e=true) {args:List SV} {res:List Sh} {r:Xc res×Zz} (h:U0 e args res=some r):Y2 Tryz.prog f=true ∧
    ∀ (w:World) (A:Nat→Prop) (vs:List Value),(∀ b,A b→b<w.heap.size)→Yq A w→Zs A (fun _=>none) w args vs →
      Go.Calls Tryz.prog f vs.toArray w (fun e w'=>∃ vals,e=.returned (Je vals)∧Ht A w w' (V5 res r.1) r.2 vals):=by
  unfold U0 at h
  split at h
  · rename_i τ x
    split at h
    · rename_i l hl
      have:=X8 hl
      cases this
      split at h
      · rename_i hlen
        split at h
        · rename_i y hy
          simp only [Option.some.injEq] at h
          subst h
          have he:=Kk res _ hy
          refine ⟨?_,fun w A vs hA hgl hr => ?_⟩
          · unfold D6 at hc
            unfold Y2
            cases hf:Tryz.prog.funcs[f]? with
            | none=>rw [hf] at hc; cases hc
            | some fn =>
              rw [hf] at hc
              simp only [Bool.and_eq_true] at hc ⊢
              obtain ⟨⟨c1,c2⟩,c3⟩:=hc
              split at c3
              · rename_i hbd; exact ⟨c1,by rw [hbd]; rfl⟩
              · cases c3
          · have:=(AD8 mixed hc hlen hA hgl hr).2
            rw [← he]
            exact this
        · cases h
      · cases h
    · cases h
  · cases h
theorem BHv:Vw Tryz.prog sp0:=fun f args res r h=>by
  unfold sp0 at h
  split at h
  · exact P7 (by kernel_rfl) h
  · exact P7 (by kernel_rfl) h
  · cases h
end Go.Proofs.YtjobjooccgledaaGreatDoor.Ghost
