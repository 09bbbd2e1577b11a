/-
  DERIVED. GIVEN WITH THE SEED: THE CARDS: each row of YtpemapoblhleoaaGreatDoorRows.lean that lists a variable, with what it lists TIED to the program's text (the seventh form; the later family's looks); each row that meets fmt, with fmt's text TOLD by the authors' own Lean function (tested against real Go, not proved from fmt's source: count such statements apart). THE CARD IS WHAT COUNTS. Prove the row's statement (the work); the ties are given (YtpemapoblhleoaaGreatDoorTie.lean); close each card by the builder's one call (the guide's Derived/Test/ToyasCard.lean, 'card_holds'). Laid BY PROGRAM, IN A SANDBOX (cutbox-door.mjs). By AI agents, Wed Nov 11 2026. No macro, syntax, notation, axiom, sorry.
-/
import Derived.Test.YtpemapoblhleoaaGreatDoorRows
import GoSem.ClaimSeven
namespace Go.Proofs.YtpemapoblhleoaaGreatDoor
namespace Rows

/-- THE TIED CARD OF 'innkeeplaw13.AtomDoes'. -/
def atomDoesCard : Claim7 := { stood := { row := atomDoesRow, standIns := [], harness := (true, "e4a2465a148b2774c9ca164eb598cac9fea9da0441c57cba0c0931a78445b28c"), looks := false }, kinds := [], alts := [], laidByText := true, laidKinds := [.widerDeep, .widerDeep], laidTests := true, laidLooks := .later }
def AtomDoesCardSaid : Prop := Claim7.holds Tryz.pinned (.plain (OpenSpec.ofChange atomDoesSpec)) atomDoesCard

/-- THE TIED CARD OF 'innkeeplaw13.AtomKeeps'. -/
def atomKeepsCard : Claim7 := { stood := { row := atomKeepsRow, standIns := [], harness := (true, "e4a2465a148b2774c9ca164eb598cac9fea9da0441c57cba0c0931a78445b28c"), looks := false }, kinds := [], alts := [], laidByText := true, laidKinds := [.widerDeep, .widerDeep], laidTests := true, laidLooks := .later }
def AtomKeepsCardSaid : Prop := Claim7.holds Tryz.pinned (.plain (OpenSpec.ofChange atomKeepsSpec)) atomKeepsCard

/-- THE TIED CARD OF 'innkeeplaw13.AtomApart'. -/
def atomApartCard : Claim7 := { stood := { row := atomApartRow, standIns := [], harness := (true, "e4a2465a148b2774c9ca164eb598cac9fea9da0441c57cba0c0931a78445b28c"), looks := false }, kinds := [], alts := [], laidByText := true, laidKinds := [.widerDeep, .widerDeep], laidTests := true, laidLooks := .later }
def AtomApartCardSaid : Prop := Claim7.holds Tryz.pinned (.plain (OpenSpec.ofChange atomApartSpec)) atomApartCard

/-- THE TIED CARD OF 'innkeeplaw13.AtomSees'. -/
def atomSeesCard : Claim7 := { stood := { row := atomSeesRow, standIns := [], harness := (true, "e4a2465a148b2774c9ca164eb598cac9fea9da0441c57cba0c0931a78445b28c"), looks := false }, kinds := [], alts := [], laidByText := true, laidKinds := [.widerDeep, .widerDeep], laidTests := true, laidLooks := .later }
def AtomSeesCardSaid : Prop := Claim7.holds Tryz.pinned (.plain (OpenSpec.ofChange atomSeesSpec)) atomSeesCard

/-- THE SECOND FORM's CARD OF 'innkeeplaw13.AtomDoes'. -/
def atomDoesUptoCard : Claim7 := { stood := { row := atomDoesUptoRow, standIns := [], harness := (true, "e4a2465a148b2774c9ca164eb598cac9fea9da0441c57cba0c0931a78445b28c"), looks := false }, kinds := [], alts := [], laidByText := true, laidKinds := [.widerDeep, .widerDeep], laidTests := true, laidLooks := .later }
def AtomDoesUptoCardSaid : Prop := Claim7.holds Tryz.pinned (.plain (OpenSpec.upto atomDoesSpec)) atomDoesUptoCard

/-- THE SECOND FORM's CARD OF 'innkeeplaw13.AtomKeeps'. -/
def atomKeepsUptoCard : Claim7 := { stood := { row := atomKeepsUptoRow, standIns := [], harness := (true, "e4a2465a148b2774c9ca164eb598cac9fea9da0441c57cba0c0931a78445b28c"), looks := false }, kinds := [], alts := [], laidByText := true, laidKinds := [.widerDeep, .widerDeep], laidTests := true, laidLooks := .later }
def AtomKeepsUptoCardSaid : Prop := Claim7.holds Tryz.pinned (.plain (OpenSpec.upto atomKeepsSpec)) atomKeepsUptoCard

/-- THE SECOND FORM's CARD OF 'innkeeplaw13.AtomApart'. -/
def atomApartUptoCard : Claim7 := { stood := { row := atomApartUptoRow, standIns := [], harness := (true, "e4a2465a148b2774c9ca164eb598cac9fea9da0441c57cba0c0931a78445b28c"), looks := false }, kinds := [], alts := [], laidByText := true, laidKinds := [.widerDeep, .widerDeep], laidTests := true, laidLooks := .later }
def AtomApartUptoCardSaid : Prop := Claim7.holds Tryz.pinned (.plain (OpenSpec.upto atomApartSpec)) atomApartUptoCard

/-- THE SECOND FORM's CARD OF 'innkeeplaw13.AtomSees'. -/
def atomSeesUptoCard : Claim7 := { stood := { row := atomSeesUptoRow, standIns := [], harness := (true, "e4a2465a148b2774c9ca164eb598cac9fea9da0441c57cba0c0931a78445b28c"), looks := false }, kinds := [], alts := [], laidByText := true, laidKinds := [.widerDeep, .widerDeep], laidTests := true, laidLooks := .later }
def AtomSeesUptoCardSaid : Prop := Claim7.holds Tryz.pinned (.plain (OpenSpec.upto atomSeesSpec)) atomSeesUptoCard
end Rows
end Go.Proofs.YtpemapoblhleoaaGreatDoor
