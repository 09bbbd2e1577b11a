/-
  DERIVED. GIVEN WITH THE SEED: THE CARDS: each row of YtjobjooccgledaaDoorRows.lean that lists a variable, with what it lists TIED to the program's text (the seventh form; the later family's looks); each row that meets fmt, with fmt's text TOLD by the authors' own Lean function (tested against real Go, not proved from fmt's source: count such statements apart). THE CARD IS WHAT COUNTS. Prove the row's statement (the work); the ties are given (YtjobjooccgledaaDoorTie.lean); close each card by the builder's one call (the guide's Derived/Test/ToyasCard.lean, 'card_holds'). Laid BY PROGRAM, IN A SANDBOX (cutbox-door.mjs). By AI agents, Wed Nov 11 2026. No macro, syntax, notation, axiom, sorry.
-/
import Derived.Test.YtjobjooccgledaaDoorRows
import GoSem.ClaimSeven
namespace Go.Proofs.YtjobjooccgledaaDoor
namespace Rows

/-- THE TIED CARD OF 'innkeeplaw18.PlanTells'. -/
def planTellsCard : Claim7 := { stood := { row := planTellsRow, standIns := [], harness := (true, "771b1b1407f4eed7f672e833664a02af8b7df73b62b8c8d806d6eba9f6f2d9c6"), looks := false }, kinds := [], alts := [], laidByText := true, laidKinds := [.funcs], laidTests := true, laidLooks := .later }
def PlanTellsCardSaid : Prop := Claim7.holds Tryd.pinned (.plain (OpenSpec.ofChange planTellsSpec)) planTellsCard

/-- THE TIED CARD OF 'innkeeplaw18.PlanSettles'. -/
def planSettlesCard : Claim7 := { stood := { row := planSettlesRow, standIns := [], harness := (true, "771b1b1407f4eed7f672e833664a02af8b7df73b62b8c8d806d6eba9f6f2d9c6"), looks := false }, kinds := [], alts := [], laidByText := true, laidKinds := [.funcs], laidTests := true, laidLooks := .later }
def PlanSettlesCardSaid : Prop := Claim7.holds Tryd.pinned (.plain (OpenSpec.ofChange planSettlesSpec)) planSettlesCard

/-- THE TIED CARD OF 'innkeeplaw18.PlanKeeps'. -/
def planKeepsCard : Claim7 := { stood := { row := planKeepsRow, standIns := [], harness := (true, "771b1b1407f4eed7f672e833664a02af8b7df73b62b8c8d806d6eba9f6f2d9c6"), looks := false }, kinds := [], alts := [], laidByText := true, laidKinds := [.funcs], laidTests := true, laidLooks := .later }
def PlanKeepsCardSaid : Prop := Claim7.holds Tryd.pinned (.plain (OpenSpec.ofChange planKeepsSpec)) planKeepsCard

/-- THE TIED CARD OF 'innkeeplaw18.PlanOrder'. -/
def planOrderCard : Claim7 := { stood := { row := planOrderRow, standIns := [], harness := (true, "771b1b1407f4eed7f672e833664a02af8b7df73b62b8c8d806d6eba9f6f2d9c6"), looks := false }, kinds := [], alts := [], laidByText := true, laidKinds := [.funcs], laidTests := true, laidLooks := .later }
def PlanOrderCardSaid : Prop := Claim7.holds Tryd.pinned (.plain (OpenSpec.ofChange planOrderSpec)) planOrderCard

/-- THE SECOND FORM's CARD OF 'innkeeplaw18.PlanTells'. -/
def planTellsUptoCard : Claim7 := { stood := { row := planTellsUptoRow, standIns := [], harness := (true, "771b1b1407f4eed7f672e833664a02af8b7df73b62b8c8d806d6eba9f6f2d9c6"), looks := false }, kinds := [], alts := [], laidByText := true, laidKinds := [.funcs], laidTests := true, laidLooks := .later }
def PlanTellsUptoCardSaid : Prop := Claim7.holds Tryd.pinned (.plain (OpenSpec.upto planTellsSpec)) planTellsUptoCard

/-- THE SECOND FORM's CARD OF 'innkeeplaw18.PlanSettles'. -/
def planSettlesUptoCard : Claim7 := { stood := { row := planSettlesUptoRow, standIns := [], harness := (true, "771b1b1407f4eed7f672e833664a02af8b7df73b62b8c8d806d6eba9f6f2d9c6"), looks := false }, kinds := [], alts := [], laidByText := true, laidKinds := [.funcs], laidTests := true, laidLooks := .later }
def PlanSettlesUptoCardSaid : Prop := Claim7.holds Tryd.pinned (.plain (OpenSpec.upto planSettlesSpec)) planSettlesUptoCard

/-- THE SECOND FORM's CARD OF 'innkeeplaw18.PlanKeeps'. -/
def planKeepsUptoCard : Claim7 := { stood := { row := planKeepsUptoRow, standIns := [], harness := (true, "771b1b1407f4eed7f672e833664a02af8b7df73b62b8c8d806d6eba9f6f2d9c6"), looks := false }, kinds := [], alts := [], laidByText := true, laidKinds := [.funcs], laidTests := true, laidLooks := .later }
def PlanKeepsUptoCardSaid : Prop := Claim7.holds Tryd.pinned (.plain (OpenSpec.upto planKeepsSpec)) planKeepsUptoCard

/-- THE SECOND FORM's CARD OF 'innkeeplaw18.PlanOrder'. -/
def planOrderUptoCard : Claim7 := { stood := { row := planOrderUptoRow, standIns := [], harness := (true, "771b1b1407f4eed7f672e833664a02af8b7df73b62b8c8d806d6eba9f6f2d9c6"), looks := false }, kinds := [], alts := [], laidByText := true, laidKinds := [.funcs], laidTests := true, laidLooks := .later }
def PlanOrderUptoCardSaid : Prop := Claim7.holds Tryd.pinned (.plain (OpenSpec.upto planOrderSpec)) planOrderUptoCard
end Rows
end Go.Proofs.YtjobjooccgledaaDoor
