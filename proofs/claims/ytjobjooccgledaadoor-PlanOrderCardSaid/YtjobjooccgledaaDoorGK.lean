/- Each function's ghost code is the program's. Conditions: none. -/
import Derived.Test.YtjobjooccgledaaDoorA4
import Derived.Test.YtjobjooccgledaaDoorGF
import Derived.KernelRfl
import Derived.Test.YtjobjooccgledaaDoorProg
namespace Go.Proofs.YtjobjooccgledaaDoor.Ghost
open Go
theorem innkeeplaw18_PlanTells.chk:chkFn Tryd.prog 3 innkeeplaw18_PlanTells.fn=true:=by kernel_rfl
theorem innkeeplaw18_PlanSettles.chk:chkFn Tryd.prog 4 innkeeplaw18_PlanSettles.fn=true:=by kernel_rfl
theorem innkeeplaw18_PlanKeeps.chk:chkFn Tryd.prog 5 innkeeplaw18_PlanKeeps.fn=true:=by kernel_rfl
theorem innkeeplaw18_PlanOrder.chk:chkFn Tryd.prog 6 innkeeplaw18_PlanOrder.fn=true:=by kernel_rfl
theorem innkeeplaw18_awake.chk:chkFn Tryd.prog 7 innkeeplaw18_awake.fn=true:=by kernel_rfl
theorem innkeepref06_Few.chk:chkFn Tryd.prog 8 innkeepref06_Few.fn=true:=by kernel_rfl
theorem innkeepref18_Full.chk:chkFn Tryd.prog 9 innkeepref18_Full.fn=true:=by kernel_rfl
theorem innkeepref18_Same.chk:chkFn Tryd.prog 10 innkeepref18_Same.fn=true:=by kernel_rfl
theorem plan_From.chk:chkFn Tryd.prog 11 plan_From.fn=true:=by kernel_rfl
theorem innkeepref18_From.chk:chkFn Tryd.prog 12 innkeepref18_From.fn=true:=by kernel_rfl
theorem innkeepref18_May.chk:chkFn Tryd.prog 13 innkeepref18_May.fn=true:=by kernel_rfl
theorem innkeepref06_Same.chk:chkFn Tryd.prog 14 innkeepref06_Same.fn=true:=by kernel_rfl
theorem innkeepref18_All.chk:chkFn Tryd.prog 16 innkeepref18_All.fn=true:=by kernel_rfl
theorem plan_Do.chk:chkFn Tryd.prog 17 plan_Do.fn=true:=by kernel_rfl
theorem innkeepref18_Do.chk:chkFn Tryd.prog 18 innkeepref18_Do.fn=true:=by kernel_rfl
theorem plan_Settled.chk:chkFn Tryd.prog 19 plan_Settled.fn=true:=by kernel_rfl
theorem innkeepref18_Settled.chk:chkFn Tryd.prog 20 innkeepref18_Settled.fn=true:=by kernel_rfl
theorem innkeepref06_Copied.chk:chkFn Tryd.prog 21 innkeepref06_Copied.fn=true:=by kernel_rfl
theorem innkeepref06_New.chk:chkFn Tryd.prog 22 innkeepref06_New.fn=true:=by kernel_rfl
theorem innkeepref03_Ints.chk:chkFn Tryd.prog 23 innkeepref03_Ints.fn=true:=by kernel_rfl
theorem innkeepref06_Places.chk:chkFn Tryd.prog 24 innkeepref06_Places.fn=true:=by kernel_rfl
theorem desc_Copy.chk:chkFn Tryd.prog 25 desc_Copy.fn=true:=by kernel_rfl
theorem prog_ok:∀ f g,prog f=some g→chkFn Tryd.prog f g=true:=fun f g h=>by
  unfold prog at h
  split at h
  · cases h; exact innkeeplaw18_PlanTells.chk
  · cases h; exact innkeeplaw18_PlanSettles.chk
  · cases h; exact innkeeplaw18_PlanKeeps.chk
  · cases h; exact innkeeplaw18_PlanOrder.chk
  · cases h; exact innkeeplaw18_awake.chk
  · cases h; exact innkeepref06_Few.chk
  · cases h; exact innkeepref18_Full.chk
  · cases h; exact innkeepref18_Same.chk
  · cases h; exact plan_From.chk
  · cases h; exact innkeepref18_From.chk
  · cases h; exact innkeepref18_May.chk
  · cases h; exact innkeepref06_Same.chk
  · cases h; exact innkeepref18_All.chk
  · cases h; exact plan_Do.chk
  · cases h; exact innkeepref18_Do.chk
  · cases h; exact plan_Settled.chk
  · cases h; exact innkeepref18_Settled.chk
  · cases h; exact innkeepref06_Copied.chk
  · cases h; exact innkeepref06_New.chk
  · cases h; exact innkeepref03_Ints.chk
  · cases h; exact innkeepref06_Places.chk
  · cases h; exact desc_Copy.chk
  · cases h
end Go.Proofs.YtjobjooccgledaaDoor.Ghost
