/- The functions whose answers are given do what is said. Conditions: none. -/
import Derived.Test.YtapeeipnjpihcaaDoorGSp
import Derived.Test.YtapeeipnjpihcaaDoorA4
import Derived.Test.YtapeeipnjpihcaaDoorProg
import Derived.KernelRfl
set_option linter.unusedVariables false
set_option linter.unusedSimpArgs false
set_option linter.unusedSectionVars false
set_option linter.unnecessarySimpa false
namespace Go.Proofs.YtapeeipnjpihcaaDoor.Ghost
open Go
theorem mixed : Tryd.prog.follows .mixedOrders = true := by kernel_rfl
theorem sp_ok : CallOk Tryd.prog sp := fun f args res r h => by
  unfold sp at h
  cases h
end Go.Proofs.YtapeeipnjpihcaaDoor.Ghost
