/- What the functions come to whose answers are given: slices.Clone, slices.Collect over places, tree.Within. Conditions: none. -/
import Derived.Test.YtapeeipnjpihcaaDoorGF
set_option linter.unusedVariables false
set_option linter.unusedSimpArgs false
set_option linter.unusedSectionVars false
set_option linter.unnecessarySimpa false
namespace Go.Proofs.YtapeeipnjpihcaaDoor.Ghost
open Go
def sp : Calls := fun f args res => match f with
  | _ => none
end Go.Proofs.YtapeeipnjpihcaaDoor.Ghost
