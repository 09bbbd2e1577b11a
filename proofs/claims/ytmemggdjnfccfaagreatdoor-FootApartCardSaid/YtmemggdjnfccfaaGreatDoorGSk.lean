/- The functions whose answers are given do what is said. Conditions: none. -/
import Derived.Test.YtmemggdjnfccfaaGreatDoorGSp
import Derived.Test.YtmemggdjnfccfaaGreatDoorA4
import Derived.Test.YtmemggdjnfccfaaGreatDoorProg
import Derived.KernelRfl
import Derived.Test.YtmemggdjnfccfaaGreatDoorDK
import Derived.Test.YtmemggdjnfccfaaGreatDoorKT
import Derived.Shelf.Spec.SlicesGrow
set_option linter.unusedVariables false
set_option linter.unusedSimpArgs false
set_option linter.unusedSectionVars false
set_option linter.unnecessarySimpa false
namespace Go.Proofs.YtmemggdjnfccfaaGreatDoor.Ghost
open Go
theorem mixed:Tryz.prog.follows .mixedOrders=true:=by kernel_rfl
theorem B1 {f:FuncId} {e:Ty} (hc:C4 Tryz.prog f e=true) {args:List SV} {res:List Sh} {r:Xf res×Z0} (h:C5 e args res=some r):Qb Tryz.prog f=true ∧
    ∀ (w:World) (A:Nat→Prop) (vs:List Value),(∀ b,A b→b<w.heap.size)→Vn A w→Zr A (fun _=>none) w args vs →
      Go.Calls Tryz.prog f vs.toArray w (fun e w'=>∃ vals,e=.returned (Js vals)∧Gd A w w' (Kl res r.1) r.2 vals):=by
  unfold C5 at h
  split at h
  · rename_i τ x
    split at h
    · rename_i l hl
      have:=Yp hl
      cases this
      split at h
      · rename_i hlen
        split at h
        · rename_i y hy
          simp only [Option.some.injEq] at h
          subst h
          have he:=K2 res _ hy
          refine ⟨?_,fun w A vs hA hgl hr => ?_⟩
          · unfold C4 at hc
            unfold Qb
            cases hf:Tryz.prog.funcs[f]? with
            | none=>rw [hf] at hc; cases hc
            | some fn =>
              rw [hf] at hc
              simp only [Bool.and_eq_true] at hc ⊢
              obtain ⟨⟨c1,c2⟩,c3⟩:=hc
              split at c3
              · rename_i hbd; exact ⟨c1,by rw [hbd]; rfl⟩
              · cases c3
          · have:=(AE3 mixed hc hlen hA hgl hr).2
            rw [← he]
            exact this
        · cases h
      · cases h
    · cases h
  · cases h
theorem Aa {f:FuncId} (hcl:Qb Tryz.prog f=true) (args:Array Value) (w:World):(callFunc f args).run Tryz.prog w=.ok (.enter f args) w:=by
  unfold Qb at hcl
  cases hf:Tryz.prog.funcs[f]? with
  | none=>simp [hf] at hcl
  | some fn =>
    simp only [hf,Bool.and_eq_true,bne_iff_ne,ne_eq] at hcl
    have hn:fn.body.isNone=false:=by
      cases hbd:fn.body with
      | none=>simp [hbd] at hcl
      | some b=>rfl
    simp [callFunc,hf,hcl.1]
    intro hbd
    simp [hbd] at hn
theorem ASl:Qb Tryz.prog 71=true:=by kernel_rfl
theorem BLo:Qb Tryz.prog 122=true:=by kernel_rfl
theorem AI0:Qb Tryz.prog 123=true:=by kernel_rfl
theorem ANh:ANg Tryz.prog 122 Tryz.f71=true:=by kernel_rfl
theorem APr:APq Tryz.prog Tryz.f122=true:=by kernel_rfl
theorem AHa:ALt Tryz.prog Tryz.f123=true:=by kernel_rfl
theorem ADm {args:List SV} {res:List Sh} {r:Xf res×Z0} (h:Et args res=some r):Qb Tryz.prog 71=true ∧
    ∀ (w:World) (A:Nat→Prop) (vs:List Value),(∀ b,A b→b<w.heap.size)→Vn A w→Zr A (fun _=>none) w args vs →
      Go.Calls Tryz.prog 71 vs.toArray w (fun e w'=>∃ vals,e=.returned (Js vals)∧Gd A w w' (Kl res r.1) r.2 vals):=by
  unfold Et at h
  split at h
  case h_2=>cases h
  rename_i g τ x σ i
  split at h
  case h_2=>cases h
  rename_i wd id hg hw hi
  obtain rfl:=Nat.eq_of_beq_eq_true hg
  have:=Yp hw
  cases this
  have:=Yp hi
  cases this
  split at h
  case isFalse=>cases h
  rename_i hin
  split at h
  case h_2=>cases h
  rename_i xs hxs
  split at h
  case h_2=>cases h
  rename_i y hy
  simp only [Option.some.injEq] at h
  subst h
  have hinj:=K2 res _ hy
  refine ⟨ASl,fun w A vs hA hgl hr => ?_⟩
  simp only [Zr] at hr
  obtain ⟨v,_,rfl,hv,rfl⟩:=hr
  simp only [Zk,Zr] at hv
  obtain ⟨_,rfl,u1,_,rfl,r1,u2,_,rfl,r2,rfl⟩:=hv
  rw [← hinj]
  exact AKc Tryz.func71 ANh Tryz.func122 APr Tryz.func123 AHa (Aa BLo) (Aa AI0) hA hgl (by simpa only [Zk] using r1) (by simpa only [Zk] using r2) hin hxs (by decide)
theorem BLp:Qb Tryz.prog 97=true:=by kernel_rfl
theorem ATl:BMv Tryz.prog Tryz.f97=true:=by kernel_rfl
theorem AHc {args:List SV} {res:List Sh} {r:Xf res×Z0} (h:AA4 args res=some r):Qb Tryz.prog 97=true ∧
    ∀ (w:World) (A:Nat→Prop) (vs:List Value),(∀ b,A b→b<w.heap.size)→Vn A w→Zr A (fun _=>none) w args vs →
      Go.Calls Tryz.prog 97 vs.toArray w (fun e w'=>∃ vals,e=.returned (Js vals)∧Gd A w w' (Kl res r.1) r.2 vals):=by
  unfold AA4 at h
  split at h
  case h_2=>cases h
  rename_i τ x σ i σ' b
  split at h
  case h_2=>cases h
  rename_i wd id bd hw hi hb
  have:=Yp hw
  cases this
  have:=Yp hi
  cases this
  have:=Yp hb
  cases this
  split at h
  case h_2=>cases h
  rename_i q hq
  split at h
  case h_2=>cases h
  rename_i y hy
  simp only [Option.some.injEq] at h
  subst h
  have hinj:=K2 res _ hy
  refine ⟨BLp,fun w A vs hA hgl hr => ?_⟩
  rw [← hinj]
  refine APi Tryz.func97 ATl Tryz.func123 AHa (Aa AI0) hA hgl hr ?_
  unfold Bb at hq
  split at hq
  · rename_i e
    simp only [Option.some.injEq] at hq
    exact .inl ⟨e,hq.symm⟩
  · rename_i e
    split at hq
    · rename_i hin
      split at hq
      · rename_i xs hxs
        simp only [Option.some.injEq] at hq
        exact .inr ⟨e,hin,xs,60,by decide,hxs,hq.symm⟩
      · cases hq
    · cases hq
def ASu:Go.Shelf.Ren:=⟨fun n=>bif Nat.beq n 4 then 138 else n,fun n=>match n with | 22=>23 | 25=>3 | 9=>9 | 20=>20 | 4=>4 | 3=>3 | n=>n,fun n=>n⟩
theorem AF1:Lays8.n4 Tryz.prog ASu where
  mixed:=mixed
  f4:=⟨Tryz.f138.name,by kernel_rfl,by kernel_rfl⟩
  t0:=by kernel_rfl
  a0:=fun w=>by kernel_rfl
  z0:=fun w=>by kernel_rfl
  v0:=fun w=>by kernel_rfl
  t3:=by kernel_rfl
  a3:=fun w=>by kernel_rfl
  z3:=fun w=>by kernel_rfl
  v3:=fun w=>by kernel_rfl
  t4:=by kernel_rfl
  a4:=fun w=>by kernel_rfl
  z4:=fun w=>by kernel_rfl
  v4:=fun w=>by kernel_rfl
  t9:=by kernel_rfl
  a9:=fun w=>by kernel_rfl
  z9:=fun w=>by kernel_rfl
  v9:=fun w=>by kernel_rfl
  t20:=by kernel_rfl
  a20:=fun w=>by kernel_rfl
  z20:=fun w=>by kernel_rfl
  v20:=fun w=>by kernel_rfl
  t22:=by kernel_rfl
  a22:=fun w=>by kernel_rfl
  z22:=fun w=>by kernel_rfl
  v22:=fun w=>by kernel_rfl
noncomputable def AF0:TypeInfo:=(Tryz.prog.info? 3).getD default
set_option maxRecDepth 4000 in
theorem ASt:AC4 Tryz.prog 138:=by
  refine ⟨by kernel_rfl,fun n w hn => ?_⟩
  by_cases h0:n=0
  · subst h0
    refine Calls.mono (Any8.slices_Grow_room AF1 none 0 0 0 w (Nat.le_refl _) (by decide) (by decide) (by decide)) (fun e w' h=>.inl h)
  · refine Calls.mono (Any8.slices_Grow_grow AF1 AF0 (.int .i64 0) (by kernel_rfl) (by kernel_rfl) (by decide +kernel) none 0 0 n [] w (Nat.le_refl _) (by omega) ?_ (by omega) rfl (fun _=>rfl) (fun a h=>by cases h)) (fun e w' h=>.inr ?_)
    · have hb:AF0.bytes=8:=by kernel_rfl
      rw [hb]; omega
    · obtain ⟨rfl,rfl⟩:=h
      have hge:=Go.grownCap_ge w (0+n) 0 3
      refine ⟨_,_,_,rfl,?_,rfl⟩
      rw [Array.size_append,Array.size_append]
      rw [Go.size_zeroCells,Go.size_zeroCells,show (Value.int IntKind.i64 0).cells.size=1 from rfl]
      show 0+(0+n - 0) * 1+(grownCap w (0+n) 0 3 - (0+n)) * 1=_
      show _=grownCap w (0+n) 0 3
      omega
theorem ANc {args:List SV} {res:List Sh} {r:Xf res×Z0} (h:ANb args res=some r):Qb Tryz.prog 112=true ∧
    ∀ (w:World) (A:Nat→Prop) (vs:List Value),(∀ b,A b→b<w.heap.size)→Vn A w→Zr A (fun _=>none) w args vs →
      Go.Calls Tryz.prog 112 vs.toArray w (fun e w'=>∃ vals,e=.returned (Js vals)∧Gd A w w' (Kl res r.1) r.2 vals):=by
  unfold ANb at h
  split at h
  case h_2=>cases h
  rename_i τ x
  split at h
  case h_2=>cases h
  rename_i a b hx
  have:=Yp hx
  cases this
  split at h
  case isFalse=>cases h
  rename_i hl
  split at h
  case h_2=>cases h
  rename_i y hy
  simp only [Option.some.injEq] at h
  subst h
  have hinj:=K2 res _ hy
  refine ⟨by kernel_rfl,fun w A vs hA hgl hr => ?_⟩
  rw [← hinj]
  exact (AKa mixed (by kernel_rfl) ASt hl.1 hl.2 hA hgl hr).2
theorem ALm {args:List SV} {res:List Sh} {r:Xf res×Z0} (h:AIq args res=some r):Qb Tryz.prog 26=true ∧
    ∀ (w:World) (A:Nat→Prop) (vs:List Value),(∀ b,A b→b<w.heap.size)→Vn A w→Zr A (fun _=>none) w args vs →
      Go.Calls Tryz.prog 26 vs.toArray w (fun e w'=>∃ vals,e=.returned (Js vals)∧Gd A w w' (Kl res r.1) r.2 vals):=by
  unfold AIq at h
  split at h
  case h_2=>cases h
  rename_i τ x
  split at h
  case h_2=>cases h
  rename_i l hx
  have:=Yp hx
  cases this
  split at h
  case isFalse=>cases h
  rename_i hl
  split at h
  case h_2=>cases h
  rename_i y hy
  simp only [Option.some.injEq] at h
  subst h
  have hinj:=K2 res _ hy
  refine ⟨by kernel_rfl,fun w A vs hA hgl hr => ?_⟩
  rw [← hinj]
  exact (AIr mixed (by kernel_rfl) AO5 hl hA hgl hr).2
theorem AHp {args:List SV} {res:List Sh} {r:Xf res×Z0} (h:ADo args res=some r):Qb Tryz.prog 28=true ∧
    ∀ (w:World) (A:Nat→Prop) (vs:List Value),(∀ b,A b→b<w.heap.size)→Vn A w→Zr A (fun _=>none) w args vs →
      Go.Calls Tryz.prog 28 vs.toArray w (fun e w'=>∃ vals,e=.returned (Js vals)∧Gd A w w' (Kl res r.1) r.2 vals):=by
  unfold ADo at h
  split at h
  case h_2=>cases h
  split at h
  case h_2=>cases h
  rename_i y hy
  simp only [Option.some.injEq] at h
  subst h
  have hinj:=K2 res _ hy
  refine ⟨by kernel_rfl,fun w A vs hA hgl hr => ?_⟩
  simp only [Zr] at hr
  subst hr
  rw [← hinj]
  exact AE7 hA hgl
theorem CAj:Hk Tryz.prog sp:=fun f args res r h=>by
  unfold sp at h
  split at h
  · exact B1 (by kernel_rfl) h
  · exact B1 (by kernel_rfl) h
  · exact ADm h
  · exact AHc h
  · exact ANc h
  · exact ALm h
  · exact AHp h
  · cases h
end Go.Proofs.YtmemggdjnfccfaaGreatDoor.Ghost
