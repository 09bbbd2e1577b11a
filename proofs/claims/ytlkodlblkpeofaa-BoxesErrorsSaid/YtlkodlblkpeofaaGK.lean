/- Each function's ghost code is the program's. Conditions: none. -/
import Derived.Test.YtlkodlblkpeofaaA4
import Derived.Test.YtlkodlblkpeofaaGF
import Derived.KernelRfl
import Derived.Test.YtlkodlblkpeofaaProg
namespace Go.Proofs.Ytlkodlblkpeofaa.Ghost
open Go
theorem innkeeplaw10_BoxesDo.chk : chkFn Try.prog 3 innkeeplaw10_BoxesDo.fn = true := by kernel_rfl
theorem innkeeplaw10_BoxesKeep.chk : chkFn Try.prog 4 innkeeplaw10_BoxesKeep.fn = true := by kernel_rfl
theorem innkeeplaw10_BoxesHold.chk : chkFn Try.prog 5 innkeeplaw10_BoxesHold.fn = true := by kernel_rfl
theorem innkeeplaw10_BoxesNear.chk : chkFn Try.prog 6 innkeeplaw10_BoxesNear.fn = true := by kernel_rfl
theorem innkeeplaw10_BoxesErrors.chk : chkFn Try.prog 7 innkeeplaw10_BoxesErrors.fn = true := by kernel_rfl
theorem innkeeplaw10_awake.chk : chkFn Try.prog 8 innkeeplaw10_awake.fn = true := by kernel_rfl
theorem innkeeplaw10_fits.chk : chkFn Try.prog 9 innkeeplaw10_fits.fn = true := by kernel_rfl
theorem boxes_Put.chk : chkFn Try.prog 10 boxes_Put.fn = true := by kernel_rfl
theorem innkeepref10_Put.chk : chkFn Try.prog 11 innkeepref10_Put.fn = true := by kernel_rfl
theorem boxes_Take.chk : chkFn Try.prog 12 boxes_Take.fn = true := by kernel_rfl
theorem innkeepref10_Take.chk : chkFn Try.prog 13 innkeepref10_Take.fn = true := by kernel_rfl
theorem innkeepref06_Same.chk : chkFn Try.prog 14 innkeepref06_Same.fn = true := by kernel_rfl
theorem boxes_Near.chk : chkFn Try.prog 15 boxes_Near.fn = true := by kernel_rfl
theorem innkeepref10_Near.chk : chkFn Try.prog 16 innkeepref10_Near.fn = true := by kernel_rfl
theorem innkeepref06_Right.chk : chkFn Try.prog 17 innkeepref06_Right.fn = true := by kernel_rfl
theorem innkeepref09_Others.chk : chkFn Try.prog 18 innkeepref09_Others.fn = true := by kernel_rfl
theorem innkeepref07_Within.chk : chkFn Try.prog 19 innkeepref07_Within.fn = true := by kernel_rfl
theorem innkeepref07_Root.chk : chkFn Try.prog 20 innkeepref07_Root.fn = true := by kernel_rfl
theorem innkeepref06_Copied.chk : chkFn Try.prog 21 innkeepref06_Copied.fn = true := by kernel_rfl
theorem innkeepref07_Room.chk : chkFn Try.prog 22 innkeepref07_Room.fn = true := by kernel_rfl
theorem innkeepref06_New.chk : chkFn Try.prog 23 innkeepref06_New.fn = true := by kernel_rfl
theorem innkeepref06_Few.chk : chkFn Try.prog 24 innkeepref06_Few.fn = true := by kernel_rfl
theorem boxes_first.chk : chkFn Try.prog 25 boxes_first.fn = true := by kernel_rfl
theorem boxes_Put_1.chk : chkFn Try.prog 26 boxes_Put_1.fn = true := by kernel_rfl
theorem boxes_none.chk : chkFn Try.prog 27 boxes_none.fn = true := by kernel_rfl
theorem boxes_Put_2.chk : chkFn Try.prog 28 boxes_Put_2.fn = true := by kernel_rfl
theorem boxes_Put_3.chk : chkFn Try.prog 29 boxes_Put_3.fn = true := by kernel_rfl
theorem boxes_Put_4.chk : chkFn Try.prog 30 boxes_Put_4.fn = true := by kernel_rfl
theorem boxes_Put_5.chk : chkFn Try.prog 32 boxes_Put_5.fn = true := by kernel_rfl
theorem tree_Depth.chk : chkFn Try.prog 33 tree_Depth.fn = true := by kernel_rfl
theorem tree_Height.chk : chkFn Try.prog 34 tree_Height.fn = true := by kernel_rfl
theorem boxes_Put_6.chk : chkFn Try.prog 35 boxes_Put_6.fn = true := by kernel_rfl
theorem tree_Room.chk : chkFn Try.prog 36 tree_Room.fn = true := by kernel_rfl
theorem hold_To.chk : chkFn Try.prog 37 hold_To.fn = true := by kernel_rfl
theorem innkeepref10_is.chk : chkFn Try.prog 38 innkeepref10_is.fn = true := by kernel_rfl
theorem innkeepref09_To.chk : chkFn Try.prog 39 innkeepref09_To.fn = true := by kernel_rfl
theorem innkeepref06_Depth.chk : chkFn Try.prog 40 innkeepref06_Depth.fn = true := by kernel_rfl
theorem boxes_Take_1.chk : chkFn Try.prog 41 boxes_Take_1.fn = true := by kernel_rfl
theorem boxes_Take_2.chk : chkFn Try.prog 42 boxes_Take_2.fn = true := by kernel_rfl
theorem boxes_Take_3.chk : chkFn Try.prog 43 boxes_Take_3.fn = true := by kernel_rfl
theorem boxes_Take_4.chk : chkFn Try.prog 44 boxes_Take_4.fn = true := by kernel_rfl
theorem boxes_Take_5.chk : chkFn Try.prog 45 boxes_Take_5.fn = true := by kernel_rfl
theorem innkeepref03_Ints.chk : chkFn Try.prog 46 innkeepref03_Ints.fn = true := by kernel_rfl
theorem innkeepref06_Places.chk : chkFn Try.prog 47 innkeepref06_Places.fn = true := by kernel_rfl
theorem tree_Root.chk : chkFn Try.prog 48 tree_Root.fn = true := by kernel_rfl
theorem innkeepref06_May.chk : chkFn Try.prog 49 innkeepref06_May.fn = true := by kernel_rfl
theorem innkeepref06_in.chk : chkFn Try.prog 50 innkeepref06_in.fn = true := by kernel_rfl
theorem innkeepref01_Is.chk : chkFn Try.prog 51 innkeepref01_Is.fn = true := by kernel_rfl
theorem innkeepref06_Many.chk : chkFn Try.prog 52 innkeepref06_Many.fn = true := by kernel_rfl
theorem innkeepref06_Cap.chk : chkFn Try.prog 53 innkeepref06_Cap.fn = true := by kernel_rfl
theorem tree_up.chk : chkFn Try.prog 54 tree_up.fn = true := by kernel_rfl
theorem tree_In.chk : chkFn Try.prog 56 tree_In.fn = true := by kernel_rfl
theorem desc_Copy.chk : chkFn Try.prog 57 desc_Copy.fn = true := by kernel_rfl
theorem prog_ok : ∀ f g, prog f = some g → chkFn Try.prog f g = true := fun f g h => by
  unfold prog at h
  split at h
  · cases h; exact innkeeplaw10_BoxesDo.chk
  · cases h; exact innkeeplaw10_BoxesKeep.chk
  · cases h; exact innkeeplaw10_BoxesHold.chk
  · cases h; exact innkeeplaw10_BoxesNear.chk
  · cases h; exact innkeeplaw10_BoxesErrors.chk
  · cases h; exact innkeeplaw10_awake.chk
  · cases h; exact innkeeplaw10_fits.chk
  · cases h; exact boxes_Put.chk
  · cases h; exact innkeepref10_Put.chk
  · cases h; exact boxes_Take.chk
  · cases h; exact innkeepref10_Take.chk
  · cases h; exact innkeepref06_Same.chk
  · cases h; exact boxes_Near.chk
  · cases h; exact innkeepref10_Near.chk
  · cases h; exact innkeepref06_Right.chk
  · cases h; exact innkeepref09_Others.chk
  · cases h; exact innkeepref07_Within.chk
  · cases h; exact innkeepref07_Root.chk
  · cases h; exact innkeepref06_Copied.chk
  · cases h; exact innkeepref07_Room.chk
  · cases h; exact innkeepref06_New.chk
  · cases h; exact innkeepref06_Few.chk
  · cases h; exact boxes_first.chk
  · cases h; exact boxes_Put_1.chk
  · cases h; exact boxes_none.chk
  · cases h; exact boxes_Put_2.chk
  · cases h; exact boxes_Put_3.chk
  · cases h; exact boxes_Put_4.chk
  · cases h; exact boxes_Put_5.chk
  · cases h; exact tree_Depth.chk
  · cases h; exact tree_Height.chk
  · cases h; exact boxes_Put_6.chk
  · cases h; exact tree_Room.chk
  · cases h; exact hold_To.chk
  · cases h; exact innkeepref10_is.chk
  · cases h; exact innkeepref09_To.chk
  · cases h; exact innkeepref06_Depth.chk
  · cases h; exact boxes_Take_1.chk
  · cases h; exact boxes_Take_2.chk
  · cases h; exact boxes_Take_3.chk
  · cases h; exact boxes_Take_4.chk
  · cases h; exact boxes_Take_5.chk
  · cases h; exact innkeepref03_Ints.chk
  · cases h; exact innkeepref06_Places.chk
  · cases h; exact tree_Root.chk
  · cases h; exact innkeepref06_May.chk
  · cases h; exact innkeepref06_in.chk
  · cases h; exact innkeepref01_Is.chk
  · cases h; exact innkeepref06_Many.chk
  · cases h; exact innkeepref06_Cap.chk
  · cases h; exact tree_up.chk
  · cases h; exact tree_In.chk
  · cases h; exact desc_Copy.chk
  · cases h
end Go.Proofs.Ytlkodlblkpeofaa.Ghost
