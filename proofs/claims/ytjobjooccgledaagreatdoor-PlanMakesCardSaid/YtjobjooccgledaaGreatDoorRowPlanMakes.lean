/- PlanMakes: the row. Conditions: none. -/
import Derived.Test.YtjobjooccgledaaGreatDoorRows
import Derived.Test.YtjobjooccgledaaGreatDoorProg
import Derived.Test.YtjobjooccgledaaGreatDoorChecked
import Derived.Test.YtjobjooccgledaaGreatDoorCards
import Derived.Test.YtjobjooccgledaaGreatDoorTie
import Derived.Test.YtjobjooccgledaaGreatDoorGL
import Derived.Test.YtjobjooccgledaaGreatDoorGM
import Derived.LaidMore
import Derived.MakeChecks
import Derived.HandedShaped
import Derived.Stop.Joined
import Derived.SevenTiedAt
import Derived.Test.YtjobjooccgledaaGreatDoorGK
import Derived.Test.YtjobjooccgledaaGreatDoorGSk
import Derived.Test.YtjobjooccgledaaGreatDoorA4
import Derived.Test.YtjobjooccgledaaGreatDoorP15
import Derived.WalkKit
import Derived.ProofKit
import Derived.OpenShut
import Derived.ShutString
import Derived.ChangeOld
import Derived.Below
import Derived.SizedLaws
namespace Go.Proofs.YtjobjooccgledaaGreatDoor.planMakes
open Go.ChangeShapes Go.WideShapes Go.ChangeAt Go.RowKit
set_option linter.unusedVariables false
theorem own : ownKnob Tryz.prog.godebug = none := by kernel_rfl
theorem Cb : laidOutB Tryz.prog = true := by kernel_rfl
abbrev AFd : List (String × DataW Unit) := [("innkeep/cmd.kinds", Rows.laid_innkeep_cmd_kinds), ("innkeep/cmd.ways", Rows.laid_innkeep_cmd_ways), ("innkeep/plan.deeds", Rows.laid_innkeep_plan_deeds)]
theorem AMt (os : Os) (args : Array Value) : laidMetH Tryz.prog AFd ((World.doorLaid Tryz.prog 400 os).forCall (fun _ _ => 0) ⟨#[], args, []⟩).memory :=
  laidMetH_of_parts3 (fuel := 8) (laidMet_of_run' 8 (by kernel_rfl) (by kernel_rfl)) (by kernel_rfl) (by kernel_rfl)
theorem AM2 {W : World} (h : laidMetH Tryz.prog AFd W) : Ghost.Yq (fun b => b < W.heap.size) W := by
  have hp : laidMet Tryz.prog [("innkeep/cmd.kinds", Rows.laid_innkeep_cmd_kinds), ("innkeep/cmd.ways", Rows.laid_innkeep_cmd_ways)] W := h.1
  obtain ⟨ps, ⟨g0, t0, cs0, f0, p0, q0, hg0, ht0, hv0, hd0, ⟨g1, t1, cs1, f1, p1, q1, hg1, ht1, hv1, hd1, _, _⟩, _⟩, _, _⟩ := hp
  obtain rfl := Option.some.inj ((show Tryz.prog.globalNamed "innkeep/cmd.kinds" = some 1 by kernel_rfl).symm.trans hg0)
  obtain rfl := Option.some.inj ((show (Tryz.prog.globals[1]?).map (·.type) = some 97 by kernel_rfl).symm.trans ht0)
  obtain rfl := Option.some.inj ((show Tryz.prog.globalNamed "innkeep/cmd.ways" = some 2 by kernel_rfl).symm.trans hg1)
  obtain rfl := Option.some.inj ((show (Tryz.prog.globals[2]?).map (·.type) = some 101 by kernel_rfl).symm.trans ht1)
  refine ⟨fun k d hd => ?_, fun k p hp => ?_⟩
  · unfold Ghost.AEt at hd
    split at hd
    · cases hd; exact Ghost.AA3 (l := Ghost.Iw) (e := 9) hg0 (by kernel_rfl) (by kernel_rfl) (by kernel_rfl) (by kernel_rfl) (by decide) hv0 hd0 (by kernel_rfl)
    · cases hd; exact Ghost.AA3 (l := Ghost.Ix) (e := 9) hg1 (by kernel_rfl) (by kernel_rfl) (by kernel_rfl) (by kernel_rfl) (by decide) hv1 hd1 (by kernel_rfl)
    · cases hd
  · unfold Ghost.AGu at hp
    split at hp
    · cases hp
      obtain ⟨g, t, cs, fuel, q, hg, ht, hv, hd⟩ := h.funcs (n := "innkeep/plan.deeds") (List.Mem.tail _ (List.Mem.tail _ (List.Mem.head _)))
      obtain rfl := Option.some.inj ((show Tryz.prog.globalNamed "innkeep/plan.deeds" = some 0 by kernel_rfl).symm.trans hg)
      obtain rfl := Option.some.inj ((show (Tryz.prog.globals[0]?).map (·.type) = some 74 by kernel_rfl).symm.trans ht)
      exact Ghost.AM1 (D := [(Lit.int .i64 0, .held [40, 105, 110, 110, 107, 101, 101, 112, 47, 112, 108, 97, 110, 46, 115, 116, 97, 116, 101, 41, 46, 114, 111, 111, 109]), (Lit.int .i64 1, .held [40, 105, 110, 110, 107, 101, 101, 112, 47, 112, 108, 97, 110, 46, 115, 116, 97, 116, 101, 41, 46, 99, 111, 105, 110, 115]), (Lit.int .i64 2, .held [40, 105, 110, 110, 107, 101, 101, 112, 47, 112, 108, 97, 110, 46, 115, 116, 97, 116, 101, 41, 46, 112, 108, 97, 99, 101])]) (ks := [0, 1, 2]) (ns := [[40, 105, 110, 110, 107, 101, 101, 112, 47, 112, 108, 97, 110, 46, 115, 116, 97, 116, 101, 41, 46, 114, 111, 111, 109], [40, 105, 110, 110, 107, 101, 101, 112, 47, 112, 108, 97, 110, 46, 115, 116, 97, 116, 101, 41, 46, 99, 111, 105, 110, 115], [40, 105, 110, 110, 107, 101, 101, 112, 47, 112, 108, 97, 110, 46, 115, 116, 97, 116, 101, 41, 46, 112, 108, 97, 99, 101]]) (fs := [131, 129, 132]) hg Tryz.underlying74 Tryz.underlying3 Tryz.underlying72 hv hd rfl ⟨⟨_, _, rfl⟩, by kernel_rfl, ⟨⟨_, _, rfl⟩, by kernel_rfl, ⟨⟨_, _, rfl⟩, by kernel_rfl, trivial⟩⟩⟩ rfl (by decide)
    · cases hp
set_option maxRecDepth 100000 in
theorem BHk (os : Os) (started : os.Started) (H : Type) (enc : TypeId × Value → H) :
    ReturnsInHanded {} Tryz.checked os 3 .any (fun w args => (Rows.planMakesSpec.pre enc Tryz.prog Tryz.f3 [] false w args ∧ laidMetH Tryz.prog AFd w) ∧ sizedMet enc Tryz.prog Tryz.f3 (OpenSpec.ofChange Rows.planMakesSpec) false w args) (Rows.planMakesSpec.post enc Tryz.prog Tryz.f3 false true false false) := by
  refine returnsInHanded_of_change_and (C := Tryz.checked) (X := fun w _ => laidMetH Tryz.prog AFd w) (fun _ _ _ hh h => h.of_heap hh) own started (by kernel_rfl) Tryz.func3
    (ChangeSpec.witness_shaped (enc := enc) (C := Tryz.checked) (os := os) (X := fun w _ => laidMetH Tryz.prog AFd w) false (World.doorLaid Tryz.prog 400 os) #[.agg #[.slice none 0 0, .slice none 0 0, .slice none 0 0, .slice none 0 0, .slice none 0 0, .int .i64 0, .int .i64 0, .int .i64 0, .slice none 0 0, .slice none 0 0, .slice none 0 0], .int .u8 0, .agg #[.int .i64 0, .int .i64 0, .int .i64 0, .int .i64 0, .int .i64 0, .slice none 0 0, .int .i64 0, .slice none 0 0, .int .i64 0], .int .u8 0] 8 rfl (World.shaped_of_RefB (by kernel_rfl) (by kernel_rfl)) (by kernel_rfl) (by kernel_rfl) (by kernel_rfl) (AMt os _)) ?_
  intro W base args ds gs before hval0 hW _ _ hL _
  have hval : ∀ (j : Nat) t v, Tryz.f3.params[j]? = some t → args[j]? = some v → Value.okWide Tryz.prog W .any base t v := hval0
  have hW' := hW
  obtain ⟨p, q, hA0, hV, rfl, hfz, hnd⟩ := hW
  have hA : DataW.TrodAll enc Tryz.prog W 0 (fun _ => true) true Tryz.f3.params.toList args.toList ds p := hA0
  rw [show Tryz.f3.params.toList = [29, 5, 31, 5] from rfl] at hA
  obtain ⟨v0, vs0, d0, ds0, p0, q0, hargs, rfl, rfl, h0, r0⟩ := trodAll_cons hA
  obtain ⟨v1, vs1, d1, ds1, p1, q1, rfl, rfl, rfl, h1, r1⟩ := trodAll_cons r0
  obtain ⟨v2, vs2, d2, ds2, p2, q2, rfl, rfl, rfl, h2, r2⟩ := trodAll_cons r1
  obtain ⟨v3, vs3, d3, ds3, p3, q3, rfl, rfl, rfl, h3, r3⟩ := trodAll_cons r2
  obtain ⟨rfl, rfl, rfl⟩ := trodAll_nil r3
  obtain rfl : args = #[v0, v1, v2, v3] := by cases args; simp_all
  obtain ⟨rfl, rfl⟩ := trodVars_none hV
  obtain ⟨x0, rx0, wx0⟩ := Ghost.D2 (ρ := fun _ => none) (Ghost.Za) (by kernel_rfl) (by kernel_rfl) (hval 0 29 v0 rfl rfl) h0
  have lt0 : ∀ x ∈ p0, x.block < W.heap.size := by obtain ⟨m, hm⟩ := h0; exact DataW.trod_lt m _ _ _ hm
  obtain ⟨x1, rx1, wx1⟩ := Ghost.D2 (ρ := fun _ => none) (.int .u8) (by kernel_rfl) (by kernel_rfl) (hval 1 5 v1 rfl rfl) h1
  have lt1 : ∀ x ∈ p1, x.block < W.heap.size := by obtain ⟨m, hm⟩ := h1; exact DataW.trod_lt m _ _ _ hm
  obtain ⟨x2, rx2, wx2⟩ := Ghost.D2 (ρ := fun _ => none) (Ghost.Z6) (by kernel_rfl) (by kernel_rfl) (hval 2 31 v2 rfl rfl) h2
  have lt2 : ∀ x ∈ p2, x.block < W.heap.size := by obtain ⟨m, hm⟩ := h2; exact DataW.trod_lt m _ _ _ hm
  obtain ⟨x3, rx3, wx3⟩ := Ghost.D2 (ρ := fun _ => none) (.int .u8) (by kernel_rfl) (by kernel_rfl) (hval 3 5 v3 rfl rfl) h3
  have lt3 : ∀ x ∈ p3, x.block < W.heap.size := by obtain ⟨m, hm⟩ := h3; exact DataW.trod_lt m _ _ _ hm
  obtain ⟨r, hr, n, hn⟩ := Ghost.B7 x0 x1 x2 x3 wx0 wx1 wx2 wx3
  have hn0 := hn n n n n (Nat.le_refl n) (Nat.le_refl n) (Nat.le_refl n) (Nat.le_refl n)
  obtain ⟨⟨b, ⟨⟩⟩, fr⟩ := r
  have hr : b = true := hr
  subst hr
  have hcalls := Ghost.AJ5 (Ghost.Wb Ghost.mixed Ghost.BXn Ghost.Cf n) (f := 3) hn0 (AM2 hL) (Ghost.Mf rx0 (Ghost.Mf rx1 (Ghost.Mf rx2 (Ghost.Mf rx3 Ghost.ALf))))
  refine Calls.mono hcalls fun e W' ⟨he, bel⟩ => ?_
  subst he
  exact ⟨_, rfl, _, _, _, [], _, [], hW', trodAll_mk1 (shut_bool Tryz.underlying4 _), (trodAll_cons_mk (Below.trod Cb (by kernel_rfl) (of_decide_eq_true (by kernel_rfl)) h0 bel lt0) (trodAll_cons_mk (Below.trod Cb (by kernel_rfl) (of_decide_eq_true (by kernel_rfl)) h1 bel lt1) (trodAll_cons_mk (Below.trod Cb (by kernel_rfl) (of_decide_eq_true (by kernel_rfl)) h2 bel lt2) (trodAll_cons_mk (Below.trod Cb (by kernel_rfl) (of_decide_eq_true (by kernel_rfl)) h3 bel lt3) trodAll_mk0)))), rfl, bel.frame _, fun h => by cases h⟩
theorem over : Rows.planMakesRow.holds Tryz.pinned (OpenSpec.ofChange Rows.planMakesSpec) :=
  OpenClaim.holds_of_wide 3 Tryz.f3 rfl rfl rfl rfl rfl rfl rfl ⟨rfl, rfl, rfl, rfl, rfl⟩ rfl rfl rfl rfl rfl (by kernel_rfl) Tryz.func3 (by kernel_rfl)
    (of_decide_eq_true (by kernel_rfl)) (by unfold Func.isWrapper; first | (rw [if_pos (by decide +kernel)]; kernel_rfl) | (rw [if_neg (by decide +kernel)]; exact ⟨rfl, rfl⟩))
    (fun os started H enc _ => BHk os started H enc)
theorem card : Rows.PlanMakesCardSaid :=
  Claim7.holds_tied_plain_at .later [] [.widerDeep, .widerDeep, .funcs] true (true, "169d57fadfca17519bef7f2f08727ad9690ff4ba8c006102e70e10ead31b89a1") false
    over (fun _ h => by cases h) (by kernel_rfl) (fun _ h => by cases h) planMakes_row_tie rfl ⟨rfl, rfl⟩ (by kernel_rfl) rfl
    (fun f fn hf hfn => by
      obtain rfl : f = 3 := Option.some.inj ((show Tryz.prog.funcNamed "innkeep/innkeeplaw18.PlanMakes" = some 3 by kernel_rfl).symm.trans hf) |>.symm
      obtain rfl : fn = Tryz.f3 := (Option.some.inj (Tryz.func3.symm.trans hfn)).symm
      exact ⟨by kernel_rfl, fun j t ht => by
        rw [show Tryz.f3.params = #[29, 5, 31, 5] from rfl] at ht
        have hm : t ∈ [29, 5, 31, 5] := by simpa using Array.mem_of_getElem? ht
        have hall : ([29, 5, 31, 5].all fun u => !Tryz.prog.wantsStandIn u) = true := by kernel_rfl
        exact (show Tryz.prog.wantsStandIn t = false by simpa using List.all_eq_true.1 hall t hm)⟩)
    (by kernel_rfl)
end Go.Proofs.YtjobjooccgledaaGreatDoor.planMakes
namespace Go.Proofs.YtjobjooccgledaaGreatDoor
/-- The row, under a short name, for the claim. -/
theorem planMakes_holds : Rows.PlanMakesCardSaid := planMakes.card
#print axioms planMakes_holds
end Go.Proofs.YtjobjooccgledaaGreatDoor
