/-
  DERIVED. GIVEN WITH THE SEED: THE CARDS: each row of YtjobjooccgledaaGreatDoorRows.lean that lists a variable, with what it lists TIED to the program's text (the seventh form; the later family's looks); each row that meets fmt, with fmt's text TOLD by the authors' own Lean function (tested against real Go, not proved from fmt's source: count such statements apart). THE CARD IS WHAT COUNTS. Prove the row's statement (the work); the ties are given (YtjobjooccgledaaGreatDoorTie.lean); close each card by the builder's one call (the guide's Derived/Test/ToyasCard.lean, 'card_holds'). Laid BY PROGRAM, IN A SANDBOX (cutbox-door.mjs). By AI agents, Wed Nov 11 2026. No macro, syntax, notation, axiom, sorry.
-/
import Derived.Test.YtjobjooccgledaaGreatDoorRows
import GoSem.ClaimSeven
namespace Go.Proofs.YtjobjooccgledaaGreatDoor
namespace Rows

/-- THE TIED CARD OF 'innkeeplaw18.PlanMakes'. -/
def planMakesCard : Claim7 := { stood := { row := planMakesRow, standIns := [], harness := (true, "169d57fadfca17519bef7f2f08727ad9690ff4ba8c006102e70e10ead31b89a1"), looks := false }, kinds := [], alts := [], laidByText := true, laidKinds := [.widerDeep, .widerDeep, .funcs], laidTests := true, laidLooks := .later }
def PlanMakesCardSaid : Prop := Claim7.holds Tryz.pinned (.plain (OpenSpec.ofChange planMakesSpec)) planMakesCard

/-- THE SECOND FORM's CARD OF 'innkeeplaw18.PlanMakes'. -/
def planMakesUptoCard : Claim7 := { stood := { row := planMakesUptoRow, standIns := [], harness := (true, "169d57fadfca17519bef7f2f08727ad9690ff4ba8c006102e70e10ead31b89a1"), looks := false }, kinds := [], alts := [], laidByText := true, laidKinds := [.widerDeep, .widerDeep, .funcs], laidTests := true, laidLooks := .later }
def PlanMakesUptoCardSaid : Prop := Claim7.holds Tryz.pinned (.plain (OpenSpec.upto planMakesSpec)) planMakesUptoCard
end Rows
end Go.Proofs.YtjobjooccgledaaGreatDoor
