/- PlanOrder: the row. Conditions: none. -/
import Derived.Test.YtjobjooccgledaaDoorRows
import Derived.Test.YtjobjooccgledaaDoorProg
import Derived.Test.YtjobjooccgledaaDoorChecked
import Derived.Test.YtjobjooccgledaaDoorCards
import Derived.Test.YtjobjooccgledaaDoorTie
import Derived.Test.YtjobjooccgledaaDoorGM
import Derived.LaidMore
import Derived.MakeChecks
import Derived.HandedShaped
import Derived.Stop.Joined
import Derived.SevenTiedAt
import Derived.Test.YtjobjooccgledaaDoorGK
import Derived.Test.YtjobjooccgledaaDoorGSk
import Derived.Test.YtjobjooccgledaaDoorA4
import Derived.Test.YtjobjooccgledaaDoorP7
import Derived.WalkKit
import Derived.ProofKit
import Derived.OpenShut
import Derived.ShutString
import Derived.ChangeOld
import Derived.Below
import Derived.SizedLaws
namespace Go.Proofs.YtjobjooccgledaaDoor.planOrder
open Go.ChangeShapes Go.WideShapes Go.ChangeAt Go.RowKit
set_option linter.unusedVariables false
theorem own : ownKnob Tryd.prog.godebug = none := by kernel_rfl
theorem laidOut : laidOutB Tryd.prog = true := by kernel_rfl
abbrev laidL : List (String × DataW Unit) := [("innkeep/plan.deeds", Rows.laid_innkeep_plan_deeds)]
theorem door_met (os : Os) (args : Array Value) : laidMetH Tryd.prog laidL ((World.doorLaid Tryd.prog 400 os).forCall (fun _ _ => 0) ⟨#[], args, []⟩).memory :=
  laidMetH_of_parts3 (fuel := 8) (laidMet_of_run' 8 (by kernel_rfl) (by kernel_rfl)) (by kernel_rfl) (by kernel_rfl)
theorem globs_ok {W : World} (h : laidMetH Tryd.prog laidL W) : Ghost.GlobOk (fun b => b < W.heap.size) W := by
  refine ⟨fun k d hd => ?_, fun k p hp => ?_⟩
  · unfold Ghost.globs at hd
    cases hd
  · unfold Ghost.fglobs at hp
    split at hp
    · cases hp
      obtain ⟨g, t, cs, fuel, q, hg, ht, hv, hd⟩ := h.funcs (n := "innkeep/plan.deeds") (List.Mem.head _)
      obtain rfl := Option.some.inj ((show Tryd.prog.globalNamed "innkeep/plan.deeds" = some 0 by kernel_rfl).symm.trans hg)
      obtain rfl := Option.some.inj ((show (Tryd.prog.globals[0]?).map (·.type) = some 67 by kernel_rfl).symm.trans ht)
      exact Ghost.glob_fns (D := [(Lit.int .i64 0, .held [40, 105, 110, 110, 107, 101, 101, 112, 47, 112, 108, 97, 110, 46, 115, 116, 97, 116, 101, 41, 46, 114, 111, 111, 109]), (Lit.int .i64 1, .held [40, 105, 110, 110, 107, 101, 101, 112, 47, 112, 108, 97, 110, 46, 115, 116, 97, 116, 101, 41, 46, 99, 111, 105, 110, 115]), (Lit.int .i64 2, .held [40, 105, 110, 110, 107, 101, 101, 112, 47, 112, 108, 97, 110, 46, 115, 116, 97, 116, 101, 41, 46, 112, 108, 97, 99, 101])]) (ks := [0, 1, 2]) (ns := [[40, 105, 110, 110, 107, 101, 101, 112, 47, 112, 108, 97, 110, 46, 115, 116, 97, 116, 101, 41, 46, 114, 111, 111, 109], [40, 105, 110, 110, 107, 101, 101, 112, 47, 112, 108, 97, 110, 46, 115, 116, 97, 116, 101, 41, 46, 99, 111, 105, 110, 115], [40, 105, 110, 110, 107, 101, 101, 112, 47, 112, 108, 97, 110, 46, 115, 116, 97, 116, 101, 41, 46, 112, 108, 97, 99, 101]]) (fs := [45, 43, 46]) hg Tryd.underlying67 Tryd.underlying3 Tryd.underlying65 hv hd rfl ⟨⟨_, _, rfl⟩, by kernel_rfl, ⟨⟨_, _, rfl⟩, by kernel_rfl, ⟨⟨_, _, rfl⟩, by kernel_rfl, trivial⟩⟩⟩ rfl (by decide)
    · cases hp
set_option maxRecDepth 100000 in
theorem lifted (os : Os) (started : os.Started) (H : Type) (enc : TypeId × Value → H) :
    ReturnsInHanded {} Tryd.checked os 6 .any (fun w args => (Rows.planOrderSpec.pre enc Tryd.prog Tryd.f6 [] false w args ∧ laidMetH Tryd.prog laidL w) ∧ sizedMet enc Tryd.prog Tryd.f6 (OpenSpec.ofChange Rows.planOrderSpec) false w args) (Rows.planOrderSpec.post enc Tryd.prog Tryd.f6 false true false false) := by
  refine returnsInHanded_of_change_and (C := Tryd.checked) (X := fun w _ => laidMetH Tryd.prog laidL w) (fun _ _ _ hh h => h.of_heap hh) own started (by kernel_rfl) Tryd.func6
    (ChangeSpec.witness_shaped (enc := enc) (C := Tryd.checked) (os := os) (X := fun w _ => laidMetH Tryd.prog laidL w) false (World.doorLaid Tryd.prog 400 os) #[.agg #[.slice none 0 0, .slice none 0 0, .slice none 0 0, .slice none 0 0, .slice none 0 0, .int .i64 0, .int .i64 0, .int .i64 0, .slice none 0 0, .slice none 0 0, .slice none 0 0], .agg #[.slice none 0 0, .slice none 0 0, .slice none 0 0, .slice none 0 0, .slice none 0 0, .int .i64 0, .int .i64 0, .int .i64 0, .slice none 0 0, .slice none 0 0, .slice none 0 0], .int .u8 0] 8 rfl (World.shaped_of_RefB (by kernel_rfl) (by kernel_rfl)) (by kernel_rfl) (by kernel_rfl) (by kernel_rfl) (door_met os _)) ?_
  intro W base args ds gs before hval0 hW _ _ hL _
  have hval : ∀ (j : Nat) t v, Tryd.f6.params[j]? = some t → args[j]? = some v → Value.okWide Tryd.prog W .any base t v := hval0
  have hW' := hW
  obtain ⟨p, q, hA0, hV, rfl, hfz, hnd⟩ := hW
  have hA : DataW.TrodAll enc Tryd.prog W 0 (fun _ => true) true Tryd.f6.params.toList args.toList ds p := hA0
  rw [show Tryd.f6.params.toList = [29, 29, 5] from rfl] at hA
  obtain ⟨v0, vs0, d0, ds0, p0, q0, hargs, rfl, rfl, h0, r0⟩ := trodAll_cons hA
  obtain ⟨v1, vs1, d1, ds1, p1, q1, rfl, rfl, rfl, h1, r1⟩ := trodAll_cons r0
  obtain ⟨v2, vs2, d2, ds2, p2, q2, rfl, rfl, rfl, h2, r2⟩ := trodAll_cons r1
  obtain ⟨rfl, rfl, rfl⟩ := trodAll_nil r2
  obtain rfl : args = #[v0, v1, v2] := by cases args; simp_all
  obtain ⟨rfl, rfl⟩ := trodVars_none hV
  obtain ⟨x0, rx0, wx0⟩ := Ghost.arg_rep (ρ := fun _ => none) (Ghost.tWorld) (by kernel_rfl) (by kernel_rfl) (hval 0 29 v0 rfl rfl) h0
  have lt0 : ∀ x ∈ p0, x.block < W.heap.size := by obtain ⟨m, hm⟩ := h0; exact DataW.trod_lt m _ _ _ hm
  obtain ⟨x1, rx1, wx1⟩ := Ghost.arg_rep (ρ := fun _ => none) (Ghost.tWorld) (by kernel_rfl) (by kernel_rfl) (hval 1 29 v1 rfl rfl) h1
  have lt1 : ∀ x ∈ p1, x.block < W.heap.size := by obtain ⟨m, hm⟩ := h1; exact DataW.trod_lt m _ _ _ hm
  obtain ⟨x2, rx2, wx2⟩ := Ghost.arg_rep (ρ := fun _ => none) (.int .u8) (by kernel_rfl) (by kernel_rfl) (hval 2 5 v2 rfl rfl) h2
  have lt2 : ∀ x ∈ p2, x.block < W.heap.size := by obtain ⟨m, hm⟩ := h2; exact DataW.trod_lt m _ _ _ hm
  obtain ⟨r, hr, n, hn⟩ := Ghost.planOrder_true x0 x1 x2 wx0 wx1 wx2
  have hn0 := hn n n n n (Nat.le_refl n) (Nat.le_refl n) (Nat.le_refl n) (Nat.le_refl n)
  obtain ⟨⟨b, ⟨⟩⟩, fr⟩ := r
  have hr : b = true := hr
  subst hr
  have hcalls := Ghost.law_calls (Ghost.gcall_sound Ghost.mixed Ghost.sp_ok Ghost.prog_ok n) (f := 6) hn0 (globs_ok hL) (Ghost.args_cons rx0 (Ghost.args_cons rx1 (Ghost.args_cons rx2 Ghost.args_nil)))
  refine Calls.mono hcalls fun e W' ⟨he, bel⟩ => ?_
  subst he
  exact ⟨_, rfl, _, _, _, [], _, [], hW', trodAll_mk1 (shut_bool Tryd.underlying4 _), (trodAll_cons_mk (Below.trod laidOut (by kernel_rfl) (of_decide_eq_true (by kernel_rfl)) h0 bel lt0) (trodAll_cons_mk (Below.trod laidOut (by kernel_rfl) (of_decide_eq_true (by kernel_rfl)) h1 bel lt1) (trodAll_cons_mk (Below.trod laidOut (by kernel_rfl) (of_decide_eq_true (by kernel_rfl)) h2 bel lt2) trodAll_mk0))), rfl, bel.frame _, fun h => by cases h⟩
theorem over : Rows.planOrderRow.holds Tryd.pinned (OpenSpec.ofChange Rows.planOrderSpec) :=
  OpenClaim.holds_of_wide 6 Tryd.f6 rfl rfl rfl rfl rfl rfl rfl ⟨rfl, rfl, rfl, rfl, rfl⟩ rfl rfl rfl rfl rfl (by kernel_rfl) Tryd.func6 (by kernel_rfl)
    (of_decide_eq_true (by kernel_rfl)) (by unfold Func.isWrapper; first | (rw [if_pos (by decide +kernel)]; kernel_rfl) | (rw [if_neg (by decide +kernel)]; exact ⟨rfl, rfl⟩))
    (fun os started H enc _ => lifted os started H enc)
theorem card : Rows.PlanOrderCardSaid :=
  Claim7.holds_tied_plain_at .later [] [.funcs] true (true, "771b1b1407f4eed7f672e833664a02af8b7df73b62b8c8d806d6eba9f6f2d9c6") false
    over (fun _ h => by cases h) (by kernel_rfl) (fun _ h => by cases h) planOrder_row_tie rfl ⟨rfl, rfl⟩ (by kernel_rfl) rfl
    (fun f fn hf hfn => by
      obtain rfl : f = 6 := Option.some.inj ((show Tryd.prog.funcNamed "innkeep/innkeeplaw18.PlanOrder" = some 6 by kernel_rfl).symm.trans hf) |>.symm
      obtain rfl : fn = Tryd.f6 := (Option.some.inj (Tryd.func6.symm.trans hfn)).symm
      exact ⟨by kernel_rfl, fun j t ht => by
        rw [show Tryd.f6.params = #[29, 29, 5] from rfl] at ht
        have hm : t ∈ [29, 29, 5] := by simpa using Array.mem_of_getElem? ht
        have hall : ([29, 29, 5].all fun u => !Tryd.prog.wantsStandIn u) = true := by kernel_rfl
        exact (show Tryd.prog.wantsStandIn t = false by simpa using List.all_eq_true.1 hall t hm)⟩)
    (by kernel_rfl)
end Go.Proofs.YtjobjooccgledaaDoor.planOrder
namespace Go.Proofs.YtjobjooccgledaaDoor
/-- The row, under a short name, for the claim. -/
theorem planOrder_holds : Rows.PlanOrderCardSaid := planOrder.card
#print axioms planOrder_holds
end Go.Proofs.YtjobjooccgledaaDoor
