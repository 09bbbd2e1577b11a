/- The functions whose answers are given do what is said. Conditions: none. -/
import Derived.Test.YtmemggdjnfccfaaGreatDoorGSp
import Derived.Test.YtmemggdjnfccfaaGreatDoorA4
import Derived.Test.YtmemggdjnfccfaaGreatDoorProg
import Derived.KernelRfl
import Derived.Test.YtmemggdjnfccfaaGreatDoorDK
import Derived.Test.YtmemggdjnfccfaaGreatDoorKT
import Derived.Shelf.Spec.SlicesGrow
set_option linter.unusedVariables false
set_option linter.unusedSimpArgs false
set_option linter.unusedSectionVars false
set_option linter.unnecessarySimpa false
namespace Go.Proofs.YtmemggdjnfccfaaGreatDoor.Ghost
open Go
theorem mixed:Tryz.prog.follows .mixedOrders=true:=by kernel_rfl
theorem Bk {f:FuncId} {e:Ty} (hc:Cp Tryz.prog f e=true) {args:List SV} {res:List Sh} {r:Xd res×Z0} (h:Cq e args res=some r):Y2 Tryz.prog f=true ∧
    ∀ (w:World) (A:Nat→Prop) (vs:List Value),(∀ b,A b→b<w.heap.size)→Vj A w→Zt A (fun _=>none) w args vs →
      Go.Calls Tryz.prog f vs.toArray w (fun e w'=>∃ vals,e=.returned (Jh vals)∧H4 A w w' (Kj res r.1) r.2 vals):=by
  unfold Cq at h
  split at h
  · rename_i τ x
    split at h
    · rename_i l hl
      have:=Yk hl
      cases this
      split at h
      · rename_i hlen
        split at h
        · rename_i y hy
          simp only [Option.some.injEq] at h
          subst h
          have he:=K0 res _ hy
          refine ⟨?_,fun w A vs hA hgl hr => ?_⟩
          · unfold Cp at hc
            unfold Y2
            cases hf:Tryz.prog.funcs[f]? with
            | none=>rw [hf] at hc; cases hc
            | some fn =>
              rw [hf] at hc
              simp only [Bool.and_eq_true] at hc ⊢
              obtain ⟨⟨c1,c2⟩,c3⟩:=hc
              split at c3
              · rename_i hbd; exact ⟨c1,by rw [hbd]; rfl⟩
              · cases c3
          · have:=(AEm mixed hc hlen hA hgl hr).2
            rw [← he]
            exact this
        · cases h
      · cases h
    · cases h
  · cases h
theorem Bu {f:FuncId} (hcl:Y2 Tryz.prog f=true) (args:Array Value) (w:World):(callFunc f args).run Tryz.prog w=.ok (.enter f args) w:=by
  unfold Y2 at hcl
  cases hf:Tryz.prog.funcs[f]? with
  | none=>simp [hf] at hcl
  | some fn =>
    simp only [hf,Bool.and_eq_true,bne_iff_ne,ne_eq] at hcl
    have hn:fn.body.isNone=false:=by
      cases hbd:fn.body with
      | none=>simp [hbd] at hcl
      | some b=>rfl
    simp [callFunc,hf,hcl.1]
    intro hbd
    simp [hbd] at hn
theorem ARw:Y2 Tryz.prog 71=true:=by kernel_rfl
theorem BJ0:Y2 Tryz.prog 122=true:=by kernel_rfl
theorem AIe:Y2 Tryz.prog 123=true:=by kernel_rfl
theorem AMr:AMq Tryz.prog 122 Tryz.f71=true:=by kernel_rfl
theorem AO2:AO1 Tryz.prog Tryz.f122=true:=by kernel_rfl
theorem AGq:AK4 Tryz.prog Tryz.f123=true:=by kernel_rfl
theorem AC5 {args:List SV} {res:List Sh} {r:Xd res×Z0} (h:Ec args res=some r):Y2 Tryz.prog 71=true ∧
    ∀ (w:World) (A:Nat→Prop) (vs:List Value),(∀ b,A b→b<w.heap.size)→Vj A w→Zt A (fun _=>none) w args vs →
      Go.Calls Tryz.prog 71 vs.toArray w (fun e w'=>∃ vals,e=.returned (Jh vals)∧H4 A w w' (Kj res r.1) r.2 vals):=by
  unfold Ec at h
  split at h
  case h_2=>cases h
  rename_i g τ x σ i
  split at h
  case h_2=>cases h
  rename_i wd id hg hw hi
  obtain rfl:=Nat.eq_of_beq_eq_true hg
  have:=Yk hw
  cases this
  have:=Yk hi
  cases this
  split at h
  case isFalse=>cases h
  rename_i hin
  split at h
  case h_2=>cases h
  rename_i xs hxs
  split at h
  case h_2=>cases h
  rename_i y hy
  simp only [Option.some.injEq] at h
  subst h
  have hinj:=K0 res _ hy
  refine ⟨ARw,fun w A vs hA hgl hr => ?_⟩
  simp only [Zt] at hr
  obtain ⟨v,_,rfl,hv,rfl⟩:=hr
  simp only [Zn,Zt] at hv
  obtain ⟨_,rfl,u1,_,rfl,r1,u2,_,rfl,r2,rfl⟩:=hv
  rw [← hinj]
  exact AJo Tryz.func71 AMr Tryz.func122 AO2 Tryz.func123 AGq (Bu BJ0) (Bu AIe) hA hgl (by simpa only [Zn] using r1) (by simpa only [Zn] using r2) hin hxs (by decide)
theorem BJ1:Y2 Tryz.prog 97=true:=by kernel_rfl
theorem AS0:BK5 Tryz.prog Tryz.f97=true:=by kernel_rfl
theorem AGs {args:List SV} {res:List Sh} {r:Xd res×Z0} (h:AAl args res=some r):Y2 Tryz.prog 97=true ∧
    ∀ (w:World) (A:Nat→Prop) (vs:List Value),(∀ b,A b→b<w.heap.size)→Vj A w→Zt A (fun _=>none) w args vs →
      Go.Calls Tryz.prog 97 vs.toArray w (fun e w'=>∃ vals,e=.returned (Jh vals)∧H4 A w w' (Kj res r.1) r.2 vals):=by
  unfold AAl at h
  split at h
  case h_2=>cases h
  rename_i τ x σ i σ' b
  split at h
  case h_2=>cases h
  rename_i wd id bd hw hi hb
  have:=Yk hw
  cases this
  have:=Yk hi
  cases this
  have:=Yk hb
  cases this
  split at h
  case h_2=>cases h
  rename_i q hq
  split at h
  case h_2=>cases h
  rename_i y hy
  simp only [Option.some.injEq] at h
  subst h
  have hinj:=K0 res _ hy
  refine ⟨BJ1,fun w A vs hA hgl hr => ?_⟩
  rw [← hinj]
  refine AOt Tryz.func97 AS0 Tryz.func123 AGq (Bu AIe) hA hgl hr ?_
  unfold Cw at hq
  split at hq
  · rename_i e
    simp only [Option.some.injEq] at hq
    exact .inl ⟨e,hq.symm⟩
  · rename_i e
    split at hq
    · rename_i hin
      split at hq
      · rename_i xs hxs
        simp only [Option.some.injEq] at hq
        exact .inr ⟨e,hin,xs,60,by decide,hxs,hq.symm⟩
      · cases hq
    · cases hq
def AR7:Go.Shelf.Ren:=⟨fun n=>bif Nat.beq n 4 then 138 else n,fun n=>match n with | 22=>23 | 25=>3 | 9=>9 | 20=>20 | 4=>4 | 3=>3 | n=>n,fun n=>n⟩
theorem AFh:Lays8.n4 Tryz.prog AR7 where
  mixed:=mixed
  f4:=⟨Tryz.f138.name,by kernel_rfl,by kernel_rfl⟩
  t0:=by kernel_rfl
  a0:=fun w=>by kernel_rfl
  z0:=fun w=>by kernel_rfl
  v0:=fun w=>by kernel_rfl
  t3:=by kernel_rfl
  a3:=fun w=>by kernel_rfl
  z3:=fun w=>by kernel_rfl
  v3:=fun w=>by kernel_rfl
  t4:=by kernel_rfl
  a4:=fun w=>by kernel_rfl
  z4:=fun w=>by kernel_rfl
  v4:=fun w=>by kernel_rfl
  t9:=by kernel_rfl
  a9:=fun w=>by kernel_rfl
  z9:=fun w=>by kernel_rfl
  v9:=fun w=>by kernel_rfl
  t20:=by kernel_rfl
  a20:=fun w=>by kernel_rfl
  z20:=fun w=>by kernel_rfl
  v20:=fun w=>by kernel_rfl
  t22:=by kernel_rfl
  a22:=fun w=>by kernel_rfl
  z22:=fun w=>by kernel_rfl
  v22:=fun w=>by kernel_rfl
noncomputable def AFg:TypeInfo:=(Tryz.prog.info? 3).getD default
set_option maxRecDepth 4000 in
theorem AR6:ACm Tryz.prog 138:=by
  refine ⟨by kernel_rfl,fun n w hn => ?_⟩
  by_cases h0:n=0
  · subst h0
    refine Calls.mono (Any8.slices_Grow_room AFh none 0 0 0 w (Nat.le_refl _) (by decide) (by decide) (by decide)) (fun e w' h=>.inl h)
  · refine Calls.mono (Any8.slices_Grow_grow AFh AFg (.int .i64 0) (by kernel_rfl) (by kernel_rfl) (by decide +kernel) none 0 0 n [] w (Nat.le_refl _) (by omega) ?_ (by omega) rfl (fun _=>rfl) (fun a h=>by cases h)) (fun e w' h=>.inr ?_)
    · have hb:AFg.bytes=8:=by kernel_rfl
      rw [hb]; omega
    · obtain ⟨rfl,rfl⟩:=h
      have hge:=Go.grownCap_ge w (0+n) 0 3
      refine ⟨_,_,_,rfl,?_,rfl⟩
      rw [Array.size_append,Array.size_append]
      rw [Go.size_zeroCells,Go.size_zeroCells,show (Value.int IntKind.i64 0).cells.size=1 from rfl]
      show 0+(0+n - 0) * 1+(grownCap w (0+n) 0 3 - (0+n)) * 1=_
      show _=grownCap w (0+n) 0 3
      omega
theorem AMm {args:List SV} {res:List Sh} {r:Xd res×Z0} (h:AMl args res=some r):Y2 Tryz.prog 112=true ∧
    ∀ (w:World) (A:Nat→Prop) (vs:List Value),(∀ b,A b→b<w.heap.size)→Vj A w→Zt A (fun _=>none) w args vs →
      Go.Calls Tryz.prog 112 vs.toArray w (fun e w'=>∃ vals,e=.returned (Jh vals)∧H4 A w w' (Kj res r.1) r.2 vals):=by
  unfold AMl at h
  split at h
  case h_2=>cases h
  rename_i τ x
  split at h
  case h_2=>cases h
  rename_i a b hx
  have:=Yk hx
  cases this
  split at h
  case isFalse=>cases h
  rename_i hl
  split at h
  case h_2=>cases h
  rename_i y hy
  simp only [Option.some.injEq] at h
  subst h
  have hinj:=K0 res _ hy
  refine ⟨by kernel_rfl,fun w A vs hA hgl hr => ?_⟩
  rw [← hinj]
  exact (AJm mixed (by kernel_rfl) AR6 hl.1 hl.2 hA hgl hr).2
theorem AKx {args:List SV} {res:List Sh} {r:Xd res×Z0} (h:AH3 args res=some r):Y2 Tryz.prog 26=true ∧
    ∀ (w:World) (A:Nat→Prop) (vs:List Value),(∀ b,A b→b<w.heap.size)→Vj A w→Zt A (fun _=>none) w args vs →
      Go.Calls Tryz.prog 26 vs.toArray w (fun e w'=>∃ vals,e=.returned (Jh vals)∧H4 A w w' (Kj res r.1) r.2 vals):=by
  unfold AH3 at h
  split at h
  case h_2=>cases h
  rename_i τ x
  split at h
  case h_2=>cases h
  rename_i l hx
  have:=Yk hx
  cases this
  split at h
  case isFalse=>cases h
  rename_i hl
  split at h
  case h_2=>cases h
  rename_i y hy
  simp only [Option.some.injEq] at h
  subst h
  have hinj:=K0 res _ hy
  refine ⟨by kernel_rfl,fun w A vs hA hgl hr => ?_⟩
  rw [← hinj]
  exact (AH4 mixed (by kernel_rfl) AOh hl hA hgl hr).2
theorem AG3 {args:List SV} {res:List Sh} {r:Xd res×Z0} (h:AC7 args res=some r):Y2 Tryz.prog 28=true ∧
    ∀ (w:World) (A:Nat→Prop) (vs:List Value),(∀ b,A b→b<w.heap.size)→Vj A w→Zt A (fun _=>none) w args vs →
      Go.Calls Tryz.prog 28 vs.toArray w (fun e w'=>∃ vals,e=.returned (Jh vals)∧H4 A w w' (Kj res r.1) r.2 vals):=by
  unfold AC7 at h
  split at h
  case h_2=>cases h
  split at h
  case h_2=>cases h
  rename_i y hy
  simp only [Option.some.injEq] at h
  subst h
  have hinj:=K0 res _ hy
  refine ⟨by kernel_rfl,fun w A vs hA hgl hr => ?_⟩
  simp only [Zt] at hr
  subst hr
  rw [← hinj]
  exact AEq hA hgl
theorem BYg:Hd Tryz.prog sp:=fun f args res r h=>by
  unfold sp at h
  split at h
  · exact Bk (by kernel_rfl) h
  · exact Bk (by kernel_rfl) h
  · exact AC5 h
  · exact AGs h
  · exact AMm h
  · exact AKx h
  · exact AG3 h
  · cases h
end Go.Proofs.YtmemggdjnfccfaaGreatDoor.Ghost
