/- The functions whose answers are given do what is said. Conditions: none. -/
import Derived.Test.YtjobjooccgledaaDoorGSp
import Derived.Test.YtjobjooccgledaaDoorA4
import Derived.Test.YtjobjooccgledaaDoorProg
import Derived.KernelRfl
import Derived.Test.YtjobjooccgledaaDoorAL
set_option linter.unusedVariables false
set_option linter.unusedSimpArgs false
set_option linter.unusedSectionVars false
set_option linter.unnecessarySimpa false
namespace Go.Proofs.YtjobjooccgledaaDoor.Ghost
open Go
theorem sp_ok:CallOk Tryd.prog sp:=fun f args res r h=>by
  unfold sp at h
  split at h
  · exact cloneSp_ok (by kernel_rfl) h
  · exact cloneSp_ok (by kernel_rfl) h
  · exact allSp_ok h
  · cases h
end Go.Proofs.YtjobjooccgledaaDoor.Ghost
