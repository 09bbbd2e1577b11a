/-
  DERIVED. GIVEN WITH THE SEED: THE CARDS: each row of YtapeeipnjpihcaaDoorRows.lean that lists a variable, with what it lists TIED to the program's text (the seventh form; the later family's looks); each row that meets fmt, with fmt's text TOLD by the authors' own Lean function (tested against real Go, not proved from fmt's source: count such statements apart). THE CARD IS WHAT COUNTS. Prove the row's statement (the work); the ties are given (YtapeeipnjpihcaaDoorTie.lean); close each card by the builder's one call (the guide's Derived/Test/ToyasCard.lean, 'card_holds'). Laid BY PROGRAM, IN A SANDBOX (cutbox-door.mjs). By AI agents, Wed Nov 11 2026. No macro, syntax, notation, axiom, sorry.
-/
import Derived.Test.YtapeeipnjpihcaaDoorRows
import GoSem.ClaimSeven
namespace Go.Proofs.YtapeeipnjpihcaaDoor
namespace Rows

/-- THE TIED CARD OF 'innkeeplaw03.CmdMay'. -/
def cmdMayCard : Claim7 := { stood := { row := cmdMayRow, standIns := [], harness := (true, "b46f0e940e5dab0a5483299900401851b685297bdc67efaf5da69601f3ac1245"), looks := false }, kinds := [], alts := [], laidByText := true, laidKinds := [.widerDeep, .widerDeep], laidTests := true, laidLooks := .later }
def CmdMayCardSaid : Prop := Claim7.holds Tryd.pinned (.plain (OpenSpec.ofChange cmdMaySpec)) cmdMayCard

/-- THE TIED CARD OF 'innkeeplaw03.CmdNames'. -/
def cmdNamesCard : Claim7 := { stood := { row := cmdNamesRow, standIns := [], harness := (true, "b46f0e940e5dab0a5483299900401851b685297bdc67efaf5da69601f3ac1245"), looks := false }, kinds := [], alts := [], laidByText := true, laidKinds := [.widerDeep, .widerDeep], laidTests := true, laidLooks := .later }
def CmdNamesCardSaid : Prop := Claim7.holds Tryd.pinned (.plain (OpenSpec.ofChange cmdNamesSpec)) cmdNamesCard

/-- THE TIED CARD OF 'innkeeplaw03.CmdFields'. -/
def cmdFieldsCard : Claim7 := { stood := { row := cmdFieldsRow, standIns := [], harness := (true, "b46f0e940e5dab0a5483299900401851b685297bdc67efaf5da69601f3ac1245"), looks := false }, kinds := [], alts := [], laidByText := true, laidKinds := [.widerDeep, .widerDeep], laidTests := true, laidLooks := .later }
def CmdFieldsCardSaid : Prop := Claim7.holds Tryd.pinned (.plain (OpenSpec.ofChange cmdFieldsSpec)) cmdFieldsCard

/-- THE TIED CARD OF 'innkeeplaw03.CmdLists'. -/
def cmdListsCard : Claim7 := { stood := { row := cmdListsRow, standIns := [], harness := (true, "b46f0e940e5dab0a5483299900401851b685297bdc67efaf5da69601f3ac1245"), looks := false }, kinds := [], alts := [], laidByText := true, laidKinds := [.widerDeep, .widerDeep], laidTests := true, laidLooks := .later }
def CmdListsCardSaid : Prop := Claim7.holds Tryd.pinned (.plain (OpenSpec.ofChange cmdListsSpec)) cmdListsCard

/-- THE SECOND FORM's CARD OF 'innkeeplaw03.CmdMay'. -/
def cmdMayUptoCard : Claim7 := { stood := { row := cmdMayUptoRow, standIns := [], harness := (true, "b46f0e940e5dab0a5483299900401851b685297bdc67efaf5da69601f3ac1245"), looks := false }, kinds := [], alts := [], laidByText := true, laidKinds := [.widerDeep, .widerDeep], laidTests := true, laidLooks := .later }
def CmdMayUptoCardSaid : Prop := Claim7.holds Tryd.pinned (.plain (OpenSpec.upto cmdMaySpec)) cmdMayUptoCard

/-- THE SECOND FORM's CARD OF 'innkeeplaw03.CmdNames'. -/
def cmdNamesUptoCard : Claim7 := { stood := { row := cmdNamesUptoRow, standIns := [], harness := (true, "b46f0e940e5dab0a5483299900401851b685297bdc67efaf5da69601f3ac1245"), looks := false }, kinds := [], alts := [], laidByText := true, laidKinds := [.widerDeep, .widerDeep], laidTests := true, laidLooks := .later }
def CmdNamesUptoCardSaid : Prop := Claim7.holds Tryd.pinned (.plain (OpenSpec.upto cmdNamesSpec)) cmdNamesUptoCard

/-- THE SECOND FORM's CARD OF 'innkeeplaw03.CmdFields'. -/
def cmdFieldsUptoCard : Claim7 := { stood := { row := cmdFieldsUptoRow, standIns := [], harness := (true, "b46f0e940e5dab0a5483299900401851b685297bdc67efaf5da69601f3ac1245"), looks := false }, kinds := [], alts := [], laidByText := true, laidKinds := [.widerDeep, .widerDeep], laidTests := true, laidLooks := .later }
def CmdFieldsUptoCardSaid : Prop := Claim7.holds Tryd.pinned (.plain (OpenSpec.upto cmdFieldsSpec)) cmdFieldsUptoCard

/-- THE SECOND FORM's CARD OF 'innkeeplaw03.CmdLists'. -/
def cmdListsUptoCard : Claim7 := { stood := { row := cmdListsUptoRow, standIns := [], harness := (true, "b46f0e940e5dab0a5483299900401851b685297bdc67efaf5da69601f3ac1245"), looks := false }, kinds := [], alts := [], laidByText := true, laidKinds := [.widerDeep, .widerDeep], laidTests := true, laidLooks := .later }
def CmdListsUptoCardSaid : Prop := Claim7.holds Tryd.pinned (.plain (OpenSpec.upto cmdListsSpec)) cmdListsUptoCard
end Rows
end Go.Proofs.YtapeeipnjpihcaaDoor
