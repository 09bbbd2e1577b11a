/- Each function's ghost code is the program's. Conditions: none. -/
import Derived.Test.YtapeeipnjpihcaaDoorA4
import Derived.Test.YtapeeipnjpihcaaDoorGF
import Derived.KernelRfl
import Derived.Test.YtapeeipnjpihcaaDoorProg
namespace Go.Proofs.YtapeeipnjpihcaaDoor.Ghost
open Go
theorem innkeeplaw03_CmdMay.chk : chkFn Tryd.prog 3 innkeeplaw03_CmdMay.fn = true := by kernel_rfl
theorem innkeeplaw03_CmdNames.chk : chkFn Tryd.prog 4 innkeeplaw03_CmdNames.fn = true := by kernel_rfl
theorem innkeeplaw03_CmdFields.chk : chkFn Tryd.prog 5 innkeeplaw03_CmdFields.fn = true := by kernel_rfl
theorem innkeeplaw03_CmdLists.chk : chkFn Tryd.prog 6 innkeeplaw03_CmdLists.fn = true := by kernel_rfl
theorem innkeeplaw03_awake.chk : chkFn Tryd.prog 7 innkeeplaw03_awake.fn = true := by kernel_rfl
theorem innkeepref03_Few.chk : chkFn Tryd.prog 8 innkeepref03_Few.fn = true := by kernel_rfl
theorem cmd_May.chk : chkFn Tryd.prog 9 cmd_May.fn = true := by kernel_rfl
theorem innkeepref03_May.chk : chkFn Tryd.prog 10 innkeepref03_May.fn = true := by kernel_rfl
theorem cmd_Same.chk : chkFn Tryd.prog 11 cmd_Same.fn = true := by kernel_rfl
theorem innkeepref03_Same.chk : chkFn Tryd.prog 12 innkeepref03_Same.fn = true := by kernel_rfl
theorem cmd_Kind.chk : chkFn Tryd.prog 13 cmd_Kind.fn = true := by kernel_rfl
theorem innkeepref03_Kind.chk : chkFn Tryd.prog 14 innkeepref03_Kind.fn = true := by kernel_rfl
theorem cmd_Dir.chk : chkFn Tryd.prog 15 cmd_Dir.fn = true := by kernel_rfl
theorem innkeepref03_Dir.chk : chkFn Tryd.prog 16 innkeepref03_Dir.fn = true := by kernel_rfl
theorem cmd_Name.chk : chkFn Tryd.prog 17 cmd_Name.fn = true := by kernel_rfl
theorem innkeepref03_Name.chk : chkFn Tryd.prog 18 innkeepref03_Name.fn = true := by kernel_rfl
theorem cmd_Way.chk : chkFn Tryd.prog 19 cmd_Way.fn = true := by kernel_rfl
theorem innkeepref03_Way.chk : chkFn Tryd.prog 20 innkeepref03_Way.fn = true := by kernel_rfl
theorem cmd_bare.chk : chkFn Tryd.prog 21 cmd_bare.fn = true := by kernel_rfl
theorem cmd_fit.chk : chkFn Tryd.prog 22 cmd_fit.fn = true := by kernel_rfl
theorem cmd_row.chk : chkFn Tryd.prog 23 cmd_row.fn = true := by kernel_rfl
theorem innkeepref03_fit.chk : chkFn Tryd.prog 24 innkeepref03_fit.fn = true := by kernel_rfl
theorem innkeepref03_row.chk : chkFn Tryd.prog 25 innkeepref03_row.fn = true := by kernel_rfl
theorem cmd_of.chk : chkFn Tryd.prog 26 cmd_of.fn = true := by kernel_rfl
theorem slices_Equal_sint_int.chk : chkFn Tryd.prog 27 slices_Equal_sint_int.fn = true := by kernel_rfl
theorem innkeepref03_Ints.chk : chkFn Tryd.prog 28 innkeepref03_Ints.fn = true := by kernel_rfl
theorem cmd_number.chk : chkFn Tryd.prog 29 cmd_number.fn = true := by kernel_rfl
theorem cmd_name.chk : chkFn Tryd.prog 30 cmd_name.fn = true := by kernel_rfl
theorem slices_ContainsFunc_sint_int.chk : chkFn Tryd.prog 31 slices_ContainsFunc_sint_int.fn = true := by kernel_rfl
theorem cmd_row_1.chk : chkFn Tryd.prog 32 cmd_row_1.fn = true := by kernel_rfl
theorem slices_Index_sstring_string.chk : chkFn Tryd.prog 33 slices_Index_sstring_string.fn = true := by kernel_rfl
theorem slices_IndexFunc_sint_int.chk : chkFn Tryd.prog 34 slices_IndexFunc_sint_int.fn = true := by kernel_rfl
theorem prog_ok : ∀ f g, prog f = some g → chkFn Tryd.prog f g = true := fun f g h => by
  unfold prog at h
  split at h
  · cases h; exact innkeeplaw03_CmdMay.chk
  · cases h; exact innkeeplaw03_CmdNames.chk
  · cases h; exact innkeeplaw03_CmdFields.chk
  · cases h; exact innkeeplaw03_CmdLists.chk
  · cases h; exact innkeeplaw03_awake.chk
  · cases h; exact innkeepref03_Few.chk
  · cases h; exact cmd_May.chk
  · cases h; exact innkeepref03_May.chk
  · cases h; exact cmd_Same.chk
  · cases h; exact innkeepref03_Same.chk
  · cases h; exact cmd_Kind.chk
  · cases h; exact innkeepref03_Kind.chk
  · cases h; exact cmd_Dir.chk
  · cases h; exact innkeepref03_Dir.chk
  · cases h; exact cmd_Name.chk
  · cases h; exact innkeepref03_Name.chk
  · cases h; exact cmd_Way.chk
  · cases h; exact innkeepref03_Way.chk
  · cases h; exact cmd_bare.chk
  · cases h; exact cmd_fit.chk
  · cases h; exact cmd_row.chk
  · cases h; exact innkeepref03_fit.chk
  · cases h; exact innkeepref03_row.chk
  · cases h; exact cmd_of.chk
  · cases h; exact slices_Equal_sint_int.chk
  · cases h; exact innkeepref03_Ints.chk
  · cases h; exact cmd_number.chk
  · cases h; exact cmd_name.chk
  · cases h; exact slices_ContainsFunc_sint_int.chk
  · cases h; exact cmd_row_1.chk
  · cases h; exact slices_Index_sstring_string.chk
  · cases h; exact slices_IndexFunc_sint_int.chk
  · cases h
end Go.Proofs.YtapeeipnjpihcaaDoor.Ghost
