/- The functions whose answers are given do what is said. Conditions: none. -/
import Derived.Test.YtjobjooccgledaaGreatDoorGSp
import Derived.Test.YtjobjooccgledaaGreatDoorA4
import Derived.Test.YtjobjooccgledaaGreatDoorProg
import Derived.KernelRfl
import Derived.Test.YtjobjooccgledaaGreatDoorDK
import Derived.Shelf.Spec.SlicesGrow
import Derived.Test.YtjobjooccgledaaGreatDoorAL
set_option linter.unusedVariables false
set_option linter.unusedSimpArgs false
set_option linter.unusedSectionVars false
set_option linter.unnecessarySimpa false
namespace Go.Proofs.YtjobjooccgledaaGreatDoor.Ghost
open Go
theorem C8 {f:FuncId} (hcl:Y2 Tryz.prog f=true) (args:Array Value) (w:World):(callFunc f args).run Tryz.prog w=.ok (.enter f args) w:=by
  unfold Y2 at hcl
  cases hf:Tryz.prog.funcs[f]? with
  | none=>simp [hf] at hcl
  | some fn =>
    simp only [hf,Bool.and_eq_true,bne_iff_ne,ne_eq] at hcl
    have hn:fn.body.isNone=false:=by
      cases hbd:fn.body with
      | none=>simp [hbd] at hcl
      | some b=>rfl
    simp [callFunc,hf,hcl.1]
    intro hbd
    simp [hbd] at hn
theorem AQh:Y2 Tryz.prog 108=true:=by kernel_rfl
theorem BG4:Y2 Tryz.prog 113=true:=by kernel_rfl
theorem AHy:Y2 Tryz.prog 112=true:=by kernel_rfl
theorem AMl:AMk Tryz.prog 113 Tryz.f108=true:=by kernel_rfl
theorem AOo:AOn Tryz.prog Tryz.f113=true:=by kernel_rfl
theorem AGe:AKr Tryz.prog Tryz.f112=true:=by kernel_rfl
theorem ACk {args:List SV} {res:List Sh} {r:Xc res×Zz} (h:Fz args res=some r):Y2 Tryz.prog 108=true ∧
    ∀ (w:World) (A:Nat→Prop) (vs:List Value),(∀ b,A b→b<w.heap.size)→Yq A w→Zs A (fun _=>none) w args vs →
      Go.Calls Tryz.prog 108 vs.toArray w (fun e w'=>∃ vals,e=.returned (Je vals)∧Ht A w w' (V5 res r.1) r.2 vals):=by
  unfold Fz at h
  split at h
  case h_2=>cases h
  rename_i g τ x σ i
  split at h
  case h_2=>cases h
  rename_i wd id hg hw hi
  obtain rfl:=Nat.eq_of_beq_eq_true hg
  have:=X8 hw
  cases this
  have:=X8 hi
  cases this
  split at h
  case isFalse=>cases h
  rename_i hin
  split at h
  case h_2=>cases h
  rename_i xs hxs
  split at h
  case h_2=>cases h
  rename_i y hy
  simp only [Option.some.injEq] at h
  subst h
  have hinj:=Kk res _ hy
  refine ⟨AQh,fun w A vs hA hgl hr => ?_⟩
  simp only [Zs] at hr
  obtain ⟨v,_,rfl,hv,rfl⟩:=hr
  simp only [Zl,Zs] at hv
  obtain ⟨_,rfl,u1,_,rfl,r1,u2,_,rfl,r2,rfl⟩:=hv
  rw [← hinj]
  exact AJb Tryz.func108 AMl Tryz.func113 AOo Tryz.func112 AGe (C8 BG4) (C8 AHy) hA hgl (by simpa only [Zl] using r1) (by simpa only [Zl] using r2) hin hxs (by decide)
theorem BG5:Y2 Tryz.prog 79=true:=by kernel_rfl
theorem ARf:BIa Tryz.prog Tryz.f79=true:=by kernel_rfl
theorem AGg {args:List SV} {res:List Sh} {r:Xc res×Zz} (h:Ax args res=some r):Y2 Tryz.prog 79=true ∧
    ∀ (w:World) (A:Nat→Prop) (vs:List Value),(∀ b,A b→b<w.heap.size)→Yq A w→Zs A (fun _=>none) w args vs →
      Go.Calls Tryz.prog 79 vs.toArray w (fun e w'=>∃ vals,e=.returned (Je vals)∧Ht A w w' (V5 res r.1) r.2 vals):=by
  unfold Ax at h
  split at h
  case h_2=>cases h
  rename_i τ x σ i σ' b
  split at h
  case h_2=>cases h
  rename_i wd id bd hw hi hb
  have:=X8 hw
  cases this
  have:=X8 hi
  cases this
  have:=X8 hb
  cases this
  split at h
  case h_2=>cases h
  rename_i q hq
  split at h
  case h_2=>cases h
  rename_i y hy
  simp only [Option.some.injEq] at h
  subst h
  have hinj:=Kk res _ hy
  refine ⟨BG5,fun w A vs hA hgl hr => ?_⟩
  rw [← hinj]
  refine AOf Tryz.func79 ARf Tryz.func112 AGe (C8 AHy) hA hgl hr ?_
  unfold Cg at hq
  split at hq
  · rename_i e
    simp only [Option.some.injEq] at hq
    exact .inl ⟨e,hq.symm⟩
  · rename_i e
    split at hq
    · rename_i hin
      split at hq
      · rename_i xs hxs
        simp only [Option.some.injEq] at hq
        exact .inr ⟨e,hin,xs,60,by decide,hxs,hq.symm⟩
      · cases hq
    · cases hq
def AQt:Go.Shelf.Ren:=⟨fun n=>bif Nat.beq n 4 then 110 else n,fun n=>match n with | 22=>23 | 25=>3 | 9=>9 | 20=>20 | 4=>4 | 3=>3 | n=>n,fun n=>n⟩
theorem AE4:Lays8.n4 Tryz.prog AQt where
  mixed:=mixed
  f4:=⟨Tryz.f110.name,by kernel_rfl,by kernel_rfl⟩
  t0:=by kernel_rfl
  a0:=fun w=>by kernel_rfl
  z0:=fun w=>by kernel_rfl
  v0:=fun w=>by kernel_rfl
  t3:=by kernel_rfl
  a3:=fun w=>by kernel_rfl
  z3:=fun w=>by kernel_rfl
  v3:=fun w=>by kernel_rfl
  t4:=by kernel_rfl
  a4:=fun w=>by kernel_rfl
  z4:=fun w=>by kernel_rfl
  v4:=fun w=>by kernel_rfl
  t9:=by kernel_rfl
  a9:=fun w=>by kernel_rfl
  z9:=fun w=>by kernel_rfl
  v9:=fun w=>by kernel_rfl
  t20:=by kernel_rfl
  a20:=fun w=>by kernel_rfl
  z20:=fun w=>by kernel_rfl
  v20:=fun w=>by kernel_rfl
  t22:=by kernel_rfl
  a22:=fun w=>by kernel_rfl
  z22:=fun w=>by kernel_rfl
  v22:=fun w=>by kernel_rfl
noncomputable def AE3:TypeInfo:=(Tryz.prog.info? 3).getD default
set_option maxRecDepth 4000 in
theorem AQs:AB2 Tryz.prog 110:=by
  refine ⟨by kernel_rfl,fun n w hn => ?_⟩
  by_cases h0:n=0
  · subst h0
    refine Calls.mono (Any8.slices_Grow_room AE4 none 0 0 0 w (Nat.le_refl _) (by decide) (by decide) (by decide)) (fun e w' h=>.inl h)
  · refine Calls.mono (Any8.slices_Grow_grow AE4 AE3 (.int .i64 0) (by kernel_rfl) (by kernel_rfl) (by decide +kernel) none 0 0 n [] w (Nat.le_refl _) (by omega) ?_ (by omega) rfl (fun _=>rfl) (fun a h=>by cases h)) (fun e w' h=>.inr ?_)
    · have hb:AE3.bytes=8:=by kernel_rfl
      rw [hb]; omega
    · obtain ⟨rfl,rfl⟩:=h
      have hge:=Go.grownCap_ge w (0+n) 0 3
      refine ⟨_,_,_,rfl,?_,rfl⟩
      rw [Array.size_append,Array.size_append]
      rw [Go.size_zeroCells,Go.size_zeroCells,show (Value.int IntKind.i64 0).cells.size=1 from rfl]
      show 0+(0+n - 0) * 1+(grownCap w (0+n) 0 3 - (0+n)) * 1=_
      show _=grownCap w (0+n) 0 3
      omega
theorem AMh {args:List SV} {res:List Sh} {r:Xc res×Zz} (h:AMg args res=some r):Y2 Tryz.prog 94=true ∧
    ∀ (w:World) (A:Nat→Prop) (vs:List Value),(∀ b,A b→b<w.heap.size)→Yq A w→Zs A (fun _=>none) w args vs →
      Go.Calls Tryz.prog 94 vs.toArray w (fun e w'=>∃ vals,e=.returned (Je vals)∧Ht A w w' (V5 res r.1) r.2 vals):=by
  unfold AMg at h
  split at h
  case h_2=>cases h
  rename_i τ x
  split at h
  case h_2=>cases h
  rename_i a b hx
  have:=X8 hx
  cases this
  split at h
  case isFalse=>cases h
  rename_i hl
  split at h
  case h_2=>cases h
  rename_i y hy
  simp only [Option.some.injEq] at h
  subst h
  have hinj:=Kk res _ hy
  refine ⟨by kernel_rfl,fun w A vs hA hgl hr => ?_⟩
  rw [← hinj]
  exact (AI9 mixed (by kernel_rfl) AQs hl.1 hl.2 hA hgl hr).2
theorem AGr {args:List SV} {res:List Sh} {r:Xc res×Zz} (h:ACm args res=some r):Y2 Tryz.prog 27=true ∧
    ∀ (w:World) (A:Nat→Prop) (vs:List Value),(∀ b,A b→b<w.heap.size)→Yq A w→Zs A (fun _=>none) w args vs →
      Go.Calls Tryz.prog 27 vs.toArray w (fun e w'=>∃ vals,e=.returned (Je vals)∧Ht A w w' (V5 res r.1) r.2 vals):=by
  unfold ACm at h
  split at h
  case h_2=>cases h
  split at h
  case h_2=>cases h
  rename_i y hy
  simp only [Option.some.injEq] at h
  subst h
  have hinj:=Kk res _ hy
  refine ⟨by kernel_rfl,fun w A vs hA hgl hr => ?_⟩
  simp only [Zs] at hr
  subst hr
  rw [← hinj]
  exact AEc hA hgl
theorem BXn:Vw Tryz.prog sp:=fun f args res r h=>by
  unfold sp at h
  split at h
  · exact P7 (by kernel_rfl) h
  · exact P7 (by kernel_rfl) h
  · exact ACk h
  · exact AGg h
  · exact AMh h
  · exact AGr h
  · exact ALa h
  · cases h
end Go.Proofs.YtjobjooccgledaaGreatDoor.Ghost
