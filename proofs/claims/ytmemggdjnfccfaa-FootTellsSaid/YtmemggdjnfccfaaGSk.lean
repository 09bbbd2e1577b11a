/- The functions whose answers are given do what is said. Conditions: none. -/
import Derived.Test.YtmemggdjnfccfaaGSp
import Derived.Test.YtmemggdjnfccfaaA4
import Derived.Test.YtmemggdjnfccfaaProg
import Derived.KernelRfl
import Derived.Test.YtmemggdjnfccfaaKT
set_option linter.unusedVariables false
set_option linter.unusedSimpArgs false
set_option linter.unusedSectionVars false
set_option linter.unnecessarySimpa false
namespace Go.Proofs.Ytmemggdjnfccfaa.Ghost
open Go
theorem mixed:Try.prog.follows .mixedOrders=true:=by kernel_rfl
theorem callable_of {f : FuncId} {fn : Func} {c : Code} (hf : Try.prog.funcs[f]? = some fn) (hb : fn.body = some c) (hn : (fn.name != "runtime.NumGoroutine") = true) : callable Try.prog f = true := by
  unfold callable
  rw [hf]
  simp only [hb,hn]
  rfl
theorem enter_of {f:FuncId} (hcl:callable Try.prog f=true) (args:Array Value) (w:World):(callFunc f args).run Try.prog w=.ok (.enter f args) w:=by
  unfold callable at hcl
  cases hf:Try.prog.funcs[f]? with
  | none=>simp [hf] at hcl
  | some fn =>
    simp only [hf,Bool.and_eq_true,bne_iff_ne,ne_eq] at hcl
    have hn:fn.body.isNone=false:=by
      cases hbd:fn.body with
      | none=>simp [hbd] at hcl
      | some b=>rfl
    simp [callFunc,hf,hcl.1]
    intro hbd
    simp [hbd] at hn
theorem cal_col:callable Try.prog 58=true:=by kernel_rfl
theorem cal_ap:callable Try.prog 64=true:=by kernel_rfl
theorem cal_up1:callable Try.prog 65=true:=by kernel_rfl
theorem col_code:colOk Try.prog 64 Try.f58=true:=by kernel_rfl
theorem ap_code:apOk Try.prog Try.f64=true:=by kernel_rfl
theorem up1_code:upOk Try.prog Try.f65=true:=by kernel_rfl
theorem collectSp_ok {args:List SV} {res:List Sh} {r:dShL res×Fresh} (h:collectSp args res=some r):callable Try.prog 58=true ∧
    ∀ (w:World) (A:Nat→Prop) (vs:List Value),(∀ b,A b→b<w.heap.size)→GlobOk A w→RepVs A (fun _=>none) w args vs →
      Go.Calls Try.prog 58 vs.toArray w (fun e w'=>∃ vals,e=.returned (bundleV vals)∧ResOk A w w' (injL res r.1) r.2 vals):=by
  unfold collectSp at h
  split at h
  case h_2=>cases h
  rename_i g τ x σ i
  split at h
  case h_2=>cases h
  rename_i wd id hg hw hi
  obtain rfl:=Nat.eq_of_beq_eq_true hg
  have:=castT_spec hw
  cases this
  have:=castT_spec hi
  cases this
  split at h
  case isFalse=>cases h
  rename_i hin
  split at h
  case h_2=>cases h
  rename_i xs hxs
  split at h
  case h_2=>cases h
  rename_i y hy
  simp only [Option.some.injEq] at h
  subst h
  have hinj:=prjL_inj res _ hy
  refine ⟨cal_col,fun w A vs hA hgl hr => ?_⟩
  simp only [RepVs] at hr
  obtain ⟨v,_,rfl,hv,rfl⟩:=hr
  simp only [RepV,RepVs] at hv
  obtain ⟨_,rfl,u1,_,rfl,r1,u2,_,rfl,r2,rfl⟩:=hv
  rw [← hinj]
  exact col_calls Try.func58 col_code Try.func64 ap_code Try.func65 up1_code (enter_of cal_ap) (enter_of cal_up1) hA (by simpa only [RepV] using r1) (by simpa only [RepV] using r2) hin hxs (by decide)
theorem sortSp_ok {args:List SV} {res:List Sh} {r:dShL res×Fresh} (h:sortSp args res=some r):callable Try.prog 32=true ∧
    ∀ (w:World) (A:Nat→Prop) (vs:List Value),(∀ b,A b→b<w.heap.size)→GlobOk A w→RepVs A (fun _=>none) w args vs →
      Go.Calls Try.prog 32 vs.toArray w (fun e w'=>∃ vals,e=.returned (bundleV vals)∧ResOk A w w' (injL res r.1) r.2 vals):=by
  unfold sortSp at h
  split at h
  case h_2=>cases h
  rename_i τ x
  split at h
  case h_2=>cases h
  rename_i l hx
  have:=castT_spec hx
  cases this
  split at h
  case isFalse=>cases h
  rename_i hl
  split at h
  case h_2=>cases h
  rename_i y hy
  simp only [Option.some.injEq] at h
  subst h
  have hinj:=prjL_inj res _ hy
  refine ⟨by kernel_rfl,fun w A vs hA hgl hr => ?_⟩
  rw [← hinj]
  exact (sort_calls mixed (by kernel_rfl) sorts_ok hl hA hgl hr).2
theorem sp_ok:CallOk Try.prog sp:=fun f args res r h=>by
  unfold sp at h
  split at h
  · exact collectSp_ok h
  · exact sortSp_ok h
  · cases h
end Go.Proofs.Ytmemggdjnfccfaa.Ghost
