/-
  DERIVED. GIVEN WITH THE SEED: THE CARDS: each row of YtmemggdjnfccfaaGreatDoorRows.lean that lists a variable, with what it lists TIED to the program's text (the seventh form; the later family's looks); each row that meets fmt, with fmt's text TOLD by the authors' own Lean function (tested against real Go, not proved from fmt's source: count such statements apart). THE CARD IS WHAT COUNTS. Prove the row's statement (the work); the ties are given (YtmemggdjnfccfaaGreatDoorTie.lean); close each card by the builder's one call (the guide's Derived/Test/ToyasCard.lean, 'card_holds'). Laid BY PROGRAM, IN A SANDBOX (cutbox-door.mjs). By AI agents, Wed Nov 11 2026. No macro, syntax, notation, axiom, sorry.
-/
import Derived.Test.YtmemggdjnfccfaaGreatDoorRows
import GoSem.ClaimSeven
namespace Go.Proofs.YtmemggdjnfccfaaGreatDoor
namespace Rows

/-- THE TIED CARD OF 'innkeeplaw16.FootCovers'. -/
def footCoversCard : Claim7 := { stood := { row := footCoversRow, standIns := [], harness := (true, "b17dac94875d58f5d1203e6e7adb21e6fc54c6b7771d4f161afab670677c8d29"), looks := false }, kinds := [], alts := [], laidByText := true, laidKinds := [.widerDeep, .widerDeep], laidTests := true, laidLooks := .later }
def FootCoversCardSaid : Prop := Claim7.holds Tryz.pinned (.plain (OpenSpec.ofChange footCoversSpec)) footCoversCard

/-- THE TIED CARD OF 'innkeeplaw16.FootApart'. -/
def footApartCard : Claim7 := { stood := { row := footApartRow, standIns := [], harness := (true, "b17dac94875d58f5d1203e6e7adb21e6fc54c6b7771d4f161afab670677c8d29"), looks := false }, kinds := [], alts := [], laidByText := true, laidKinds := [.widerDeep, .widerDeep], laidTests := true, laidLooks := .later }
def FootApartCardSaid : Prop := Claim7.holds Tryz.pinned (.plain (OpenSpec.ofChange footApartSpec)) footApartCard

/-- THE SECOND FORM's CARD OF 'innkeeplaw16.FootCovers'. -/
def footCoversUptoCard : Claim7 := { stood := { row := footCoversUptoRow, standIns := [], harness := (true, "b17dac94875d58f5d1203e6e7adb21e6fc54c6b7771d4f161afab670677c8d29"), looks := false }, kinds := [], alts := [], laidByText := true, laidKinds := [.widerDeep, .widerDeep], laidTests := true, laidLooks := .later }
def FootCoversUptoCardSaid : Prop := Claim7.holds Tryz.pinned (.plain (OpenSpec.upto footCoversSpec)) footCoversUptoCard

/-- THE SECOND FORM's CARD OF 'innkeeplaw16.FootApart'. -/
def footApartUptoCard : Claim7 := { stood := { row := footApartUptoRow, standIns := [], harness := (true, "b17dac94875d58f5d1203e6e7adb21e6fc54c6b7771d4f161afab670677c8d29"), looks := false }, kinds := [], alts := [], laidByText := true, laidKinds := [.widerDeep, .widerDeep], laidTests := true, laidLooks := .later }
def FootApartUptoCardSaid : Prop := Claim7.holds Tryz.pinned (.plain (OpenSpec.upto footApartSpec)) footApartUptoCard
end Rows
end Go.Proofs.YtmemggdjnfccfaaGreatDoor
