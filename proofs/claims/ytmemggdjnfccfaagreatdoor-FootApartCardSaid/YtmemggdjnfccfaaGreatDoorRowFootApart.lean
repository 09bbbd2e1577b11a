/- FootApart: the row. Conditions: none. -/
import Derived.Test.YtmemggdjnfccfaaGreatDoorRows
import Derived.Test.YtmemggdjnfccfaaGreatDoorProg
import Derived.Test.YtmemggdjnfccfaaGreatDoorChecked
import Derived.Test.YtmemggdjnfccfaaGreatDoorCards
import Derived.Test.YtmemggdjnfccfaaGreatDoorTie
import Derived.Test.YtmemggdjnfccfaaGreatDoorGL
import Derived.LaidMore
import Derived.MakeChecks
import Derived.HandedShaped
import Derived.Stop.Joined
import Derived.SevenTiedAt
import Derived.Test.YtmemggdjnfccfaaGreatDoorGK
import Derived.Test.YtmemggdjnfccfaaGreatDoorGSk
import Derived.Test.YtmemggdjnfccfaaGreatDoorA4
import Derived.Test.YtmemggdjnfccfaaGreatDoorP23
import Derived.WalkKit
import Derived.ProofKit
import Derived.OpenShut
import Derived.ShutString
import Derived.ChangeOld
import Derived.Below
import Derived.SizedLaws
namespace Go.Proofs.YtmemggdjnfccfaaGreatDoor.footApart
open Go.ChangeShapes Go.WideShapes Go.ChangeAt Go.RowKit
set_option linter.unusedVariables false
theorem own : ownKnob Tryz.prog.godebug = none := by kernel_rfl
theorem Fu : laidOutB Tryz.prog = true := by kernel_rfl
abbrev AGa : List (String × DataW Unit) := [("innkeep/cmd.kinds", Rows.laid_innkeep_cmd_kinds), ("innkeep/cmd.ways", Rows.laid_innkeep_cmd_ways)]
theorem ANp (os : Os) (args : Array Value) : laidMetH Tryz.prog AGa ((World.doorLaid Tryz.prog 400 os).forCall (fun _ _ => 0) ⟨#[], args, []⟩).memory :=
  laidMetH_of_parts3 (fuel := 8) (laidMet_of_run' 8 (by kernel_rfl) (by kernel_rfl)) (by kernel_rfl) (by kernel_rfl)
theorem ANw {W : World} (h : laidMetH Tryz.prog AGa W) : Ghost.Vn (fun b => b < W.heap.size) W := by
  rw [MakeChecks.laidMetH_plain _ _ _ (by kernel_rfl)] at h
  obtain ⟨ps, ⟨g0, t0, cs0, f0, p0, q0, hg0, ht0, hv0, hd0, ⟨g1, t1, cs1, f1, p1, q1, hg1, ht1, hv1, hd1, _, _⟩, _⟩, _, _⟩ := h
  obtain rfl := Option.some.inj ((show Tryz.prog.globalNamed "innkeep/cmd.kinds" = some 0 by kernel_rfl).symm.trans hg0)
  obtain rfl := Option.some.inj ((show (Tryz.prog.globals[0]?).map (·.type) = some 108 by kernel_rfl).symm.trans ht0)
  obtain rfl := Option.some.inj ((show Tryz.prog.globalNamed "innkeep/cmd.ways" = some 1 by kernel_rfl).symm.trans hg1)
  obtain rfl := Option.some.inj ((show (Tryz.prog.globals[1]?).map (·.type) = some 112 by kernel_rfl).symm.trans ht1)
  intro k d hd
  unfold Ghost.P8 at hd
  split at hd
  · cases hd; exact Ghost.AB3 (l := Ghost.Fh) (e := 9) hg0 (by kernel_rfl) (by kernel_rfl) (by kernel_rfl) (by kernel_rfl) (by decide) hv0 hd0 (by kernel_rfl)
  · cases hd; exact Ghost.AB3 (l := Ghost.Fi) (e := 9) hg1 (by kernel_rfl) (by kernel_rfl) (by kernel_rfl) (by kernel_rfl) (by decide) hv1 hd1 (by kernel_rfl)
  · cases hd
set_option maxRecDepth 100000 in
theorem BL5 (os : Os) (started : os.Started) (H : Type) (enc : TypeId × Value → H) :
    ReturnsInHanded {} Tryz.checked os 4 .any (fun w args => (Rows.footApartSpec.pre enc Tryz.prog Tryz.f4 [] false w args ∧ laidMetH Tryz.prog AGa w) ∧ sizedMet enc Tryz.prog Tryz.f4 (OpenSpec.ofChange Rows.footApartSpec) false w args) (Rows.footApartSpec.post enc Tryz.prog Tryz.f4 false true false false) := by
  refine returnsInHanded_of_change_and (C := Tryz.checked) (X := fun w _ => laidMetH Tryz.prog AGa w) (fun _ _ _ hh h => h.of_heap hh) own started (by kernel_rfl) Tryz.func4
    (ChangeSpec.witness_shaped (enc := enc) (C := Tryz.checked) (os := os) (X := fun w _ => laidMetH Tryz.prog AGa w) false (World.doorLaid Tryz.prog 400 os) #[.agg #[.slice none 0 0, .slice none 0 0, .slice none 0 0, .slice none 0 0, .slice none 0 0, .int .i64 0, .int .i64 0, .int .i64 0, .slice none 0 0, .slice none 0 0, .slice none 0 0], .int .u8 0, .agg #[.int .i64 0, .int .i64 0, .int .i64 0, .int .i64 0, .int .i64 0, .slice none 0 0, .int .i64 0, .slice none 0 0, .int .i64 0], .int .u8 0, .agg #[.int .i64 0, .int .i64 0, .int .i64 0, .int .i64 0, .int .i64 0, .slice none 0 0, .int .i64 0, .slice none 0 0, .int .i64 0]] 8 rfl (World.shaped_of_RefB (by kernel_rfl) (by kernel_rfl)) (by kernel_rfl) (by kernel_rfl) (by kernel_rfl) (ANp os _)) ?_
  intro W base args ds gs Bh hval0 hW _ _ hL _
  have hval : ∀ (j : Nat) t v, Tryz.f4.params[j]? = some t → args[j]? = some v → Value.okWide Tryz.prog W .any base t v := hval0
  have hW' := hW
  obtain ⟨p, q, hA0, hV, rfl, hfz, hnd⟩ := hW
  have hA : DataW.TrodAll enc Tryz.prog W 0 (fun _ => true) true Tryz.f4.params.toList args.toList ds p := hA0
  rw [show Tryz.f4.params.toList = [29, 5, 31, 5, 31] from rfl] at hA
  obtain ⟨v0, vs0, d0, ds0, p0, q0, hargs, rfl, rfl, h0, r0⟩ := trodAll_cons hA
  obtain ⟨v1, vs1, d1, ds1, p1, q1, rfl, rfl, rfl, h1, r1⟩ := trodAll_cons r0
  obtain ⟨v2, vs2, d2, ds2, p2, q2, rfl, rfl, rfl, h2, r2⟩ := trodAll_cons r1
  obtain ⟨v3, vs3, d3, ds3, p3, q3, rfl, rfl, rfl, h3, r3⟩ := trodAll_cons r2
  obtain ⟨v4, vs4, d4, ds4, p4, q4, rfl, rfl, rfl, h4, r4⟩ := trodAll_cons r3
  obtain ⟨rfl, rfl, rfl⟩ := trodAll_nil r4
  obtain rfl : args = #[v0, v1, v2, v3, v4] := by cases args; simp_all
  obtain ⟨rfl, rfl⟩ := trodVars_none hV
  obtain ⟨x0, rx0, wx0⟩ := Ghost.Iz (ρ := fun _ => none) (Ghost.Zb) (by kernel_rfl) (by kernel_rfl) (hval 0 29 v0 rfl rfl) h0
  have lt0 : ∀ x ∈ p0, x.block < W.heap.size := by obtain ⟨m, hm⟩ := h0; exact DataW.trod_lt m _ _ _ hm
  obtain ⟨x1, rx1, wx1⟩ := Ghost.Iz (ρ := fun _ => none) (.int .u8) (by kernel_rfl) (by kernel_rfl) (hval 1 5 v1 rfl rfl) h1
  have lt1 : ∀ x ∈ p1, x.block < W.heap.size := by obtain ⟨m, hm⟩ := h1; exact DataW.trod_lt m _ _ _ hm
  obtain ⟨x2, rx2, wx2⟩ := Ghost.Iz (ρ := fun _ => none) (Ghost.Zz) (by kernel_rfl) (by kernel_rfl) (hval 2 31 v2 rfl rfl) h2
  have lt2 : ∀ x ∈ p2, x.block < W.heap.size := by obtain ⟨m, hm⟩ := h2; exact DataW.trod_lt m _ _ _ hm
  obtain ⟨x3, rx3, wx3⟩ := Ghost.Iz (ρ := fun _ => none) (.int .u8) (by kernel_rfl) (by kernel_rfl) (hval 3 5 v3 rfl rfl) h3
  have lt3 : ∀ x ∈ p3, x.block < W.heap.size := by obtain ⟨m, hm⟩ := h3; exact DataW.trod_lt m _ _ _ hm
  obtain ⟨x4, rx4, wx4⟩ := Ghost.Iz (ρ := fun _ => none) (Ghost.Zz) (by kernel_rfl) (by kernel_rfl) (hval 4 31 v4 rfl rfl) h4
  have lt4 : ∀ x ∈ p4, x.block < W.heap.size := by obtain ⟨m, hm⟩ := h4; exact DataW.trod_lt m _ _ _ hm
  obtain ⟨r, hr, n, hn⟩ := Ghost.Ah x0 x1 x2 x3 x4 wx0 wx1 wx2 wx3 wx4
  have hn0 := hn n n n n (Nat.le_refl n) (Nat.le_refl n) (Nat.le_refl n) (Nat.le_refl n)
  obtain ⟨⟨b, ⟨⟩⟩, fr⟩ := r
  have hr : b = true := hr
  subst hr
  have hcalls := Ghost.AK6 (Ghost.R7 Ghost.mixed Ghost.CAj Ghost.AD8 n) (f := 4) hn0 (ANw hL) (Ghost.P4 rx0 (Ghost.P4 rx1 (Ghost.P4 rx2 (Ghost.P4 rx3 (Ghost.P4 rx4 Ghost.AL4)))))
  refine Calls.mono hcalls fun e W' ⟨he, bel⟩ => ?_
  subst he
  exact ⟨_, rfl, _, _, _, [], _, [], hW', trodAll_mk1 (shut_bool Tryz.underlying4 _), (trodAll_cons_mk (Below.trod Fu (by kernel_rfl) (of_decide_eq_true (by kernel_rfl)) h0 bel lt0) (trodAll_cons_mk (Below.trod Fu (by kernel_rfl) (of_decide_eq_true (by kernel_rfl)) h1 bel lt1) (trodAll_cons_mk (Below.trod Fu (by kernel_rfl) (of_decide_eq_true (by kernel_rfl)) h2 bel lt2) (trodAll_cons_mk (Below.trod Fu (by kernel_rfl) (of_decide_eq_true (by kernel_rfl)) h3 bel lt3) (trodAll_cons_mk (Below.trod Fu (by kernel_rfl) (of_decide_eq_true (by kernel_rfl)) h4 bel lt4) trodAll_mk0))))), rfl, bel.frame _, fun h => by cases h⟩
theorem over : Rows.footApartRow.holds Tryz.pinned (OpenSpec.ofChange Rows.footApartSpec) :=
  OpenClaim.holds_of_wide 4 Tryz.f4 rfl rfl rfl rfl rfl rfl rfl ⟨rfl, rfl, rfl, rfl, rfl⟩ rfl rfl rfl rfl rfl (by kernel_rfl) Tryz.func4 (by kernel_rfl)
    (of_decide_eq_true (by kernel_rfl)) (by unfold Func.isWrapper; first | (rw [if_pos (by decide +kernel)]; kernel_rfl) | (rw [if_neg (by decide +kernel)]; exact ⟨rfl, rfl⟩))
    (fun os started H enc _ => BL5 os started H enc)
theorem card : Rows.FootApartCardSaid :=
  Claim7.holds_tied_plain_at .later [] [.widerDeep, .widerDeep] true (true, "b17dac94875d58f5d1203e6e7adb21e6fc54c6b7771d4f161afab670677c8d29") false
    over (fun _ h => by cases h) (by kernel_rfl) (fun _ h => by cases h) footApart_row_tie rfl ⟨rfl, rfl⟩ (by kernel_rfl) rfl
    (fun f fn hf hfn => by
      obtain rfl : f = 4 := Option.some.inj ((show Tryz.prog.funcNamed "innkeep/innkeeplaw16.FootApart" = some 4 by kernel_rfl).symm.trans hf) |>.symm
      obtain rfl : fn = Tryz.f4 := (Option.some.inj (Tryz.func4.symm.trans hfn)).symm
      exact ⟨by kernel_rfl, fun j t ht => by
        rw [show Tryz.f4.params = #[29, 5, 31, 5, 31] from rfl] at ht
        have hm : t ∈ [29, 5, 31, 5, 31] := by simpa using Array.mem_of_getElem? ht
        have hall : ([29, 5, 31, 5, 31].all fun u => !Tryz.prog.wantsStandIn u) = true := by kernel_rfl
        exact (show Tryz.prog.wantsStandIn t = false by simpa using List.all_eq_true.1 hall t hm)⟩)
    (by kernel_rfl)
end Go.Proofs.YtmemggdjnfccfaaGreatDoor.footApart
namespace Go.Proofs.YtmemggdjnfccfaaGreatDoor
/-- The row, under a short name, for the claim. -/
theorem footApart_holds : Rows.FootApartCardSaid := footApart.card
#print axioms footApart_holds
end Go.Proofs.YtmemggdjnfccfaaGreatDoor
