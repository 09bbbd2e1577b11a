/- The functions whose answers are given do what is said. Conditions: none. -/
import Derived.Test.YtpemapoblhleoaaGreatDoorGSp
import Derived.Test.YtpemapoblhleoaaGreatDoorA4
import Derived.Test.YtpemapoblhleoaaGreatDoorProg
import Derived.KernelRfl
import Derived.Test.YtpemapoblhleoaaGreatDoorDK
import Derived.Shelf.Spec.SlicesGrow
set_option linter.unusedVariables false
set_option linter.unusedSimpArgs false
set_option linter.unusedSectionVars false
set_option linter.unnecessarySimpa false
namespace Go.Proofs.YtpemapoblhleoaaGreatDoor.Ghost
open Go
theorem mixed:Tryz.prog.follows .mixedOrders=true:=by kernel_rfl
theorem Cg {f:FuncId} {e:Ty} (hc:Dh Tryz.prog f e=true) {args:List SV} {res:List Sh} {r:Z8 res×Zz} (h:Di e args res=some r):Qa Tryz.prog f=true ∧
    ∀ (w:World) (A:Nat→Prop) (vs:List Value),(∀ b,A b→b<w.heap.size)→Vr A w→Zm A (fun _=>none) w args vs →
      Go.Calls Tryz.prog f vs.toArray w (fun e w'=>∃ vals,e=.returned (Ju vals)∧Ga A w w' (Kd res r.1) r.2 vals):=by
  unfold Di at h
  split at h
  · rename_i τ x
    split at h
    · rename_i l hl
      have:=Yf hl
      cases this
      split at h
      · rename_i hlen
        split at h
        · rename_i y hy
          simp only [Option.some.injEq] at h
          subst h
          have he:=Kp res _ hy
          refine ⟨?_,fun w A vs hA hgl hr => ?_⟩
          · unfold Dh at hc
            unfold Qa
            cases hf:Tryz.prog.funcs[f]? with
            | none=>rw [hf] at hc; cases hc
            | some fn =>
              rw [hf] at hc
              simp only [Bool.and_eq_true] at hc ⊢
              obtain ⟨⟨c1,c2⟩,c3⟩:=hc
              split at c3
              · rename_i hbd; exact ⟨c1,by rw [hbd]; rfl⟩
              · cases c3
          · have:=(AC4 mixed hc hlen hA hgl hr).2
            rw [← he]
            exact this
        · cases h
      · cases h
    · cases h
  · cases h
theorem Cq {f:FuncId} (hcl:Qa Tryz.prog f=true) (args:Array Value) (w:World):(callFunc f args).run Tryz.prog w=.ok (.enter f args) w:=by
  unfold Qa at hcl
  cases hf:Tryz.prog.funcs[f]? with
  | none=>simp [hf] at hcl
  | some fn =>
    simp only [hf,Bool.and_eq_true,bne_iff_ne,ne_eq] at hcl
    have hn:fn.body.isNone=false:=by
      cases hbd:fn.body with
      | none=>simp [hbd] at hcl
      | some b=>rfl
    simp [callFunc,hf,hcl.1]
    intro hbd
    simp [hbd] at hn
theorem APt:Qa Tryz.prog 132=true:=by kernel_rfl
theorem BG0:Qa Tryz.prog 139=true:=by kernel_rfl
theorem AGo:Qa Tryz.prog 138=true:=by kernel_rfl
theorem AKu:AKt Tryz.prog 139 Tryz.f132=true:=by kernel_rfl
theorem AMz:AMy Tryz.prog Tryz.f139=true:=by kernel_rfl
theorem AE4:AI6 Tryz.prog Tryz.f138=true:=by kernel_rfl
theorem ABn {args:List SV} {res:List Sh} {r:Z8 res×Zz} (h:Fc args res=some r):Qa Tryz.prog 132=true ∧
    ∀ (w:World) (A:Nat→Prop) (vs:List Value),(∀ b,A b→b<w.heap.size)→Vr A w→Zm A (fun _=>none) w args vs →
      Go.Calls Tryz.prog 132 vs.toArray w (fun e w'=>∃ vals,e=.returned (Ju vals)∧Ga A w w' (Kd res r.1) r.2 vals):=by
  unfold Fc at h
  split at h
  case h_2=>cases h
  rename_i g τ x σ i
  split at h
  case h_2=>cases h
  rename_i wd id hg hw hi
  obtain rfl:=Nat.eq_of_beq_eq_true hg
  have:=Yf hw
  cases this
  have:=Yf hi
  cases this
  split at h
  case isFalse=>cases h
  rename_i hin
  split at h
  case h_2=>cases h
  rename_i xs hxs
  split at h
  case h_2=>cases h
  rename_i y hy
  simp only [Option.some.injEq] at h
  subst h
  have hinj:=Kp res _ hy
  refine ⟨APt,fun w A vs hA hgl hr => ?_⟩
  simp only [Zm] at hr
  obtain ⟨v,_,rfl,hv,rfl⟩:=hr
  simp only [Zi,Zm] at hv
  obtain ⟨_,rfl,u1,_,rfl,r1,u2,_,rfl,r2,rfl⟩:=hv
  rw [← hinj]
  exact AHw Tryz.func132 AKu Tryz.func139 AMz Tryz.func138 AE4 (Cq BG0) (Cq AGo) hA hgl (by simpa only [Zi] using r1) (by simpa only [Zi] using r2) hin hxs (by decide)
theorem BG1:Qa Tryz.prog 101=true:=by kernel_rfl
theorem AQn:BH0 Tryz.prog Tryz.f101=true:=by kernel_rfl
theorem AE6 {args:List SV} {res:List Sh} {r:Z8 res×Zz} (h:B4 args res=some r):Qa Tryz.prog 101=true ∧
    ∀ (w:World) (A:Nat→Prop) (vs:List Value),(∀ b,A b→b<w.heap.size)→Vr A w→Zm A (fun _=>none) w args vs →
      Go.Calls Tryz.prog 101 vs.toArray w (fun e w'=>∃ vals,e=.returned (Ju vals)∧Ga A w w' (Kd res r.1) r.2 vals):=by
  unfold B4 at h
  split at h
  case h_2=>cases h
  rename_i τ x σ i σ' b
  split at h
  case h_2=>cases h
  rename_i wd id bd hw hi hb
  have:=Yf hw
  cases this
  have:=Yf hi
  cases this
  have:=Yf hb
  cases this
  split at h
  case h_2=>cases h
  rename_i q hq
  split at h
  case h_2=>cases h
  rename_i y hy
  simp only [Option.some.injEq] at h
  subst h
  have hinj:=Kp res _ hy
  refine ⟨BG1,fun w A vs hA hgl hr => ?_⟩
  rw [← hinj]
  refine AMr Tryz.func101 AQn Tryz.func138 AE4 (Cq AGo) hA hgl hr ?_
  unfold Dp at hq
  split at hq
  · rename_i e
    simp only [Option.some.injEq] at hq
    exact .inl ⟨e,hq.symm⟩
  · rename_i e
    split at hq
    · rename_i hin
      split at hq
      · rename_i xs hxs
        simp only [Option.some.injEq] at hq
        exact .inr ⟨e,hin,xs,60,by decide,hxs,hq.symm⟩
      · cases hq
    · cases hq
def AP2:Go.Shelf.Ren:=⟨fun n=>bif Nat.beq n 4 then 134 else n,fun n=>match n with | 22=>23 | 25=>3 | 9=>9 | 20=>20 | 4=>4 | 3=>3 | n=>n,fun n=>n⟩
theorem ADz:Lays8.n4 Tryz.prog AP2 where
  mixed:=mixed
  f4:=⟨Tryz.f134.name,by kernel_rfl,by kernel_rfl⟩
  t0:=by kernel_rfl
  a0:=fun w=>by kernel_rfl
  z0:=fun w=>by kernel_rfl
  v0:=fun w=>by kernel_rfl
  t3:=by kernel_rfl
  a3:=fun w=>by kernel_rfl
  z3:=fun w=>by kernel_rfl
  v3:=fun w=>by kernel_rfl
  t4:=by kernel_rfl
  a4:=fun w=>by kernel_rfl
  z4:=fun w=>by kernel_rfl
  v4:=fun w=>by kernel_rfl
  t9:=by kernel_rfl
  a9:=fun w=>by kernel_rfl
  z9:=fun w=>by kernel_rfl
  v9:=fun w=>by kernel_rfl
  t20:=by kernel_rfl
  a20:=fun w=>by kernel_rfl
  z20:=fun w=>by kernel_rfl
  v20:=fun w=>by kernel_rfl
  t22:=by kernel_rfl
  a22:=fun w=>by kernel_rfl
  z22:=fun w=>by kernel_rfl
  v22:=fun w=>by kernel_rfl
noncomputable def ADy:TypeInfo:=(Tryz.prog.info? 3).getD default
set_option maxRecDepth 4000 in
theorem AP1:AA7 Tryz.prog 134:=by
  refine ⟨by kernel_rfl,fun n w hn => ?_⟩
  by_cases h0:n=0
  · subst h0
    refine Calls.mono (Any8.slices_Grow_room ADz none 0 0 0 w (Nat.le_refl _) (by decide) (by decide) (by decide)) (fun e w' h=>.inl h)
  · refine Calls.mono (Any8.slices_Grow_grow ADz ADy (.int .i64 0) (by kernel_rfl) (by kernel_rfl) (by decide +kernel) none 0 0 n [] w (Nat.le_refl _) (by omega) ?_ (by omega) rfl (fun _=>rfl) (fun a h=>by cases h)) (fun e w' h=>.inr ?_)
    · have hb:ADy.bytes=8:=by kernel_rfl
      rw [hb]; omega
    · obtain ⟨rfl,rfl⟩:=h
      have hge:=Go.grownCap_ge w (0+n) 0 3
      refine ⟨_,_,_,rfl,?_,rfl⟩
      rw [Array.size_append,Array.size_append]
      rw [Go.size_zeroCells,Go.size_zeroCells,show (Value.int IntKind.i64 0).cells.size=1 from rfl]
      show 0+(0+n - 0) * 1+(grownCap w (0+n) 0 3 - (0+n)) * 1=_
      show _=grownCap w (0+n) 0 3
      omega
theorem AKq {args:List SV} {res:List Sh} {r:Z8 res×Zz} (h:AKp args res=some r):Qa Tryz.prog 116=true ∧
    ∀ (w:World) (A:Nat→Prop) (vs:List Value),(∀ b,A b→b<w.heap.size)→Vr A w→Zm A (fun _=>none) w args vs →
      Go.Calls Tryz.prog 116 vs.toArray w (fun e w'=>∃ vals,e=.returned (Ju vals)∧Ga A w w' (Kd res r.1) r.2 vals):=by
  unfold AKp at h
  split at h
  case h_2=>cases h
  rename_i τ x
  split at h
  case h_2=>cases h
  rename_i a b hx
  have:=Yf hx
  cases this
  split at h
  case isFalse=>cases h
  rename_i hl
  split at h
  case h_2=>cases h
  rename_i y hy
  simp only [Option.some.injEq] at h
  subst h
  have hinj:=Kp res _ hy
  refine ⟨by kernel_rfl,fun w A vs hA hgl hr => ?_⟩
  rw [← hinj]
  exact (AHu mixed (by kernel_rfl) AP1 hl.1 hl.2 hA hgl hr).2
theorem AFh {args:List SV} {res:List Sh} {r:Z8 res×Zz} (h:ABp args res=some r):Qa Tryz.prog 22=true ∧
    ∀ (w:World) (A:Nat→Prop) (vs:List Value),(∀ b,A b→b<w.heap.size)→Vr A w→Zm A (fun _=>none) w args vs →
      Go.Calls Tryz.prog 22 vs.toArray w (fun e w'=>∃ vals,e=.returned (Ju vals)∧Ga A w w' (Kd res r.1) r.2 vals):=by
  unfold ABp at h
  split at h
  case h_2=>cases h
  split at h
  case h_2=>cases h
  rename_i y hy
  simp only [Option.some.injEq] at h
  subst h
  have hinj:=Kp res _ hy
  refine ⟨by kernel_rfl,fun w A vs hA hgl hr => ?_⟩
  simp only [Zm] at hr
  subst hr
  rw [← hinj]
  exact AC8 hA hgl
theorem BSk:Kw Tryz.prog sp:=fun f args res r h=>by
  unfold sp at h
  split at h
  · exact Cg (by kernel_rfl) h
  · exact Cg (by kernel_rfl) h
  · exact ABn h
  · exact AE6 h
  · exact AKq h
  · exact AFh h
  · cases h
end Go.Proofs.YtpemapoblhleoaaGreatDoor.Ghost
