/-
  DERIVED. GIVEN WITH THE SEED: THE PROGRAM's TIES (one call each: nine closed facts by the kernel) AND EACH ROW's TIE, after the 31st guide's Derived/Test/Toyas{Tie, Card}.lean. No idea stands in it: it is a product of the set-up. Laid BY PROGRAM, IN A SANDBOX (cutbox-door.mjs). By AI agents, Wed Nov 11 2026. No macro, syntax, notation, axiom, sorry.
-/
import Derived.Test.YtjobjooccgledaaGreatDoorRows
import Derived.LaidByTextLater
import Derived.SevenTiedAt
import Derived.LaidSub
import Derived.LaidOnce
namespace Go.Proofs.YtjobjooccgledaaGreatDoor
open Go
set_option maxRecDepth 100000
theorem seatTie1 : Tryz.prog.laidByTextLater [("innkeep/cmd.kinds", Rows.laid_innkeep_cmd_kinds), ("innkeep/cmd.ways", Rows.laid_innkeep_cmd_ways), ("innkeep/plan.deeds", Rows.laid_innkeep_plan_deeds)] [.widerDeep, .widerDeep, .funcs] true :=
  Program.laidByTextLater_by_one 39 8 12 (by kernel_rfl) (by kernel_rfl) (by kernel_rfl) (by kernel_rfl) (by kernel_rfl) (by kernel_rfl) (fun _ _ => by kernel_rfl)
theorem noOwnUnsafe : Tryz.pinned.checked.prog.headLifts.contains "ownunsafe" = false := by kernel_rfl
theorem tie : Tryz.prog.laidByTextLater [("innkeep/cmd.kinds", Rows.laid_innkeep_cmd_kinds), ("innkeep/cmd.ways", Rows.laid_innkeep_cmd_ways), ("innkeep/plan.deeds", Rows.laid_innkeep_plan_deeds)] [.widerDeep, .widerDeep, .funcs] true :=
  Program.laidByTextLater.sub seatTie1 ["innkeep/cmd.kinds", "innkeep/cmd.ways", "innkeep/plan.deeds"] (by kernel_rfl) (by kernel_rfl)
theorem planMakes_row_tie : Rows.planMakesRow.laidByTextAt .later Tryz.pinned [.widerDeep, .widerDeep, .funcs] true :=
  OpenClaim.laidByTextAt_later rfl rfl tie noOwnUnsafe
theorem planMakesUpto_row_tie : Rows.planMakesUptoRow.laidByTextAt .later Tryz.pinned [.widerDeep, .widerDeep, .funcs] true :=
  OpenClaim.laidByTextAt_later rfl rfl tie noOwnUnsafe
end Go.Proofs.YtjobjooccgledaaGreatDoor
