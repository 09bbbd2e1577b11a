/- Each function's ghost code is the program's. Conditions: none. -/
import Derived.Test.YtbdciahiebnmhaaA4
import Derived.Test.YtbdciahiebnmhaaGF
import Derived.KernelRfl
import Derived.Test.YtbdciahiebnmhaaProg
namespace Go.Proofs.Ytbdciahiebnmhaa.Ghost
open Go
theorem innkeeplaw09_HoldDoes.chk : chkFn Try.prog 3 innkeeplaw09_HoldDoes.fn = true := by kernel_rfl
theorem innkeeplaw09_HoldMoves.chk : chkFn Try.prog 4 innkeeplaw09_HoldMoves.fn = true := by kernel_rfl
theorem innkeeplaw09_HoldKeeps.chk : chkFn Try.prog 5 innkeeplaw09_HoldKeeps.fn = true := by kernel_rfl
theorem innkeeplaw09_HoldAll.chk : chkFn Try.prog 6 innkeeplaw09_HoldAll.fn = true := by kernel_rfl
theorem innkeeplaw09_HoldOther.chk : chkFn Try.prog 7 innkeeplaw09_HoldOther.fn = true := by kernel_rfl
theorem innkeeplaw09_awake.chk : chkFn Try.prog 8 innkeeplaw09_awake.fn = true := by kernel_rfl
theorem innkeeplaw09_fits.chk : chkFn Try.prog 9 innkeeplaw09_fits.fn = true := by kernel_rfl
theorem hold_Get.chk : chkFn Try.prog 10 hold_Get.fn = true := by kernel_rfl
theorem innkeepref09_Get.chk : chkFn Try.prog 11 innkeepref09_Get.fn = true := by kernel_rfl
theorem hold_Drop.chk : chkFn Try.prog 12 hold_Drop.fn = true := by kernel_rfl
theorem innkeepref09_Drop.chk : chkFn Try.prog 13 innkeepref09_Drop.fn = true := by kernel_rfl
theorem innkeepref06_Same.chk : chkFn Try.prog 14 innkeepref06_Same.fn = true := by kernel_rfl
theorem hold_To.chk : chkFn Try.prog 15 hold_To.fn = true := by kernel_rfl
theorem innkeepref09_To.chk : chkFn Try.prog 16 innkeepref09_To.fn = true := by kernel_rfl
theorem innkeepref06_Right.chk : chkFn Try.prog 17 innkeepref06_Right.fn = true := by kernel_rfl
theorem innkeepref09_Others.chk : chkFn Try.prog 18 innkeepref09_Others.fn = true := by kernel_rfl
theorem innkeepref07_Within.chk : chkFn Try.prog 19 innkeepref07_Within.fn = true := by kernel_rfl
theorem innkeepref07_Root.chk : chkFn Try.prog 20 innkeepref07_Root.fn = true := by kernel_rfl
theorem innkeepref06_Copied.chk : chkFn Try.prog 21 innkeepref06_Copied.fn = true := by kernel_rfl
theorem innkeepref07_Room.chk : chkFn Try.prog 22 innkeepref07_Room.fn = true := by kernel_rfl
theorem innkeepref07_In.chk : chkFn Try.prog 23 innkeepref07_In.fn = true := by kernel_rfl
theorem innkeepref06_New.chk : chkFn Try.prog 24 innkeepref06_New.fn = true := by kernel_rfl
theorem innkeepref06_Few.chk : chkFn Try.prog 25 innkeepref06_Few.fn = true := by kernel_rfl
theorem hold_places.chk : chkFn Try.prog 26 hold_places.fn = true := by kernel_rfl
theorem hold_pass.chk : chkFn Try.prog 27 hold_pass.fn = true := by kernel_rfl
theorem innkeepref03_Ints.chk : chkFn Try.prog 28 innkeepref03_Ints.fn = true := by kernel_rfl
theorem innkeepref06_Places.chk : chkFn Try.prog 29 innkeepref06_Places.fn = true := by kernel_rfl
theorem desc_Copy.chk : chkFn Try.prog 30 desc_Copy.fn = true := by kernel_rfl
theorem innkeepref06_May.chk : chkFn Try.prog 31 innkeepref06_May.fn = true := by kernel_rfl
theorem innkeepref06_in.chk : chkFn Try.prog 32 innkeepref06_in.fn = true := by kernel_rfl
theorem innkeepref01_Is.chk : chkFn Try.prog 33 innkeepref01_Is.fn = true := by kernel_rfl
theorem innkeepref06_Depth.chk : chkFn Try.prog 34 innkeepref06_Depth.fn = true := by kernel_rfl
theorem innkeepref06_Many.chk : chkFn Try.prog 35 innkeepref06_Many.fn = true := by kernel_rfl
theorem innkeepref06_Cap.chk : chkFn Try.prog 36 innkeepref06_Cap.fn = true := by kernel_rfl
theorem tree_Room.chk : chkFn Try.prog 37 tree_Room.fn = true := by kernel_rfl
theorem tree_In.chk : chkFn Try.prog 40 tree_In.fn = true := by kernel_rfl
theorem prog_ok : ∀ f g, prog f = some g → chkFn Try.prog f g = true := fun f g h => by
  unfold prog at h
  split at h
  · cases h; exact innkeeplaw09_HoldDoes.chk
  · cases h; exact innkeeplaw09_HoldMoves.chk
  · cases h; exact innkeeplaw09_HoldKeeps.chk
  · cases h; exact innkeeplaw09_HoldAll.chk
  · cases h; exact innkeeplaw09_HoldOther.chk
  · cases h; exact innkeeplaw09_awake.chk
  · cases h; exact innkeeplaw09_fits.chk
  · cases h; exact hold_Get.chk
  · cases h; exact innkeepref09_Get.chk
  · cases h; exact hold_Drop.chk
  · cases h; exact innkeepref09_Drop.chk
  · cases h; exact innkeepref06_Same.chk
  · cases h; exact hold_To.chk
  · cases h; exact innkeepref09_To.chk
  · cases h; exact innkeepref06_Right.chk
  · cases h; exact innkeepref09_Others.chk
  · cases h; exact innkeepref07_Within.chk
  · cases h; exact innkeepref07_Root.chk
  · cases h; exact innkeepref06_Copied.chk
  · cases h; exact innkeepref07_Room.chk
  · cases h; exact innkeepref07_In.chk
  · cases h; exact innkeepref06_New.chk
  · cases h; exact innkeepref06_Few.chk
  · cases h; exact hold_places.chk
  · cases h; exact hold_pass.chk
  · cases h; exact innkeepref03_Ints.chk
  · cases h; exact innkeepref06_Places.chk
  · cases h; exact desc_Copy.chk
  · cases h; exact innkeepref06_May.chk
  · cases h; exact innkeepref06_in.chk
  · cases h; exact innkeepref01_Is.chk
  · cases h; exact innkeepref06_Depth.chk
  · cases h; exact innkeepref06_Many.chk
  · cases h; exact innkeepref06_Cap.chk
  · cases h; exact tree_Room.chk
  · cases h; exact tree_In.chk
  · cases h
end Go.Proofs.Ytbdciahiebnmhaa.Ghost
