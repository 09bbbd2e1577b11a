/- Each function's ghost code is the program's. Conditions: none. -/
import Derived.Test.YtlnnpcgfhcaafaaA4
import Derived.Test.YtlnnpcgfhcaafaaGF
import Derived.KernelRfl
import Derived.Test.YtlnnpcgfhcaafaaProg
namespace Go.Proofs.Ytlnnpcgfhcaafaa.Ghost
open Go
theorem innkeeplaw07_TreeAsks.chk : chkFn Try.prog 3 innkeeplaw07_TreeAsks.fn = true := by kernel_rfl
theorem innkeeplaw07_TreeRoots.chk : chkFn Try.prog 4 innkeeplaw07_TreeRoots.fn = true := by kernel_rfl
theorem innkeeplaw07_TreeWithin.chk : chkFn Try.prog 5 innkeeplaw07_TreeWithin.fn = true := by kernel_rfl
theorem innkeeplaw07_TreeKeeps.chk : chkFn Try.prog 6 innkeeplaw07_TreeKeeps.fn = true := by kernel_rfl
theorem innkeeplaw07_TreeMoved.chk : chkFn Try.prog 7 innkeeplaw07_TreeMoved.fn = true := by kernel_rfl
theorem innkeeplaw07_awake.chk : chkFn Try.prog 8 innkeeplaw07_awake.fn = true := by kernel_rfl
theorem innkeeplaw07_fits.chk : chkFn Try.prog 9 innkeeplaw07_fits.fn = true := by kernel_rfl
theorem innkeepref07_Is.chk : chkFn Try.prog 10 innkeepref07_Is.fn = true := by kernel_rfl
theorem innkeepref03_Ints.chk : chkFn Try.prog 11 innkeepref03_Ints.fn = true := by kernel_rfl
theorem tree_In.chk : chkFn Try.prog 12 tree_In.fn = true := by kernel_rfl
theorem innkeepref07_In.chk : chkFn Try.prog 13 innkeepref07_In.fn = true := by kernel_rfl
theorem tree_Room.chk : chkFn Try.prog 14 tree_Room.fn = true := by kernel_rfl
theorem innkeepref07_Room.chk : chkFn Try.prog 15 innkeepref07_Room.fn = true := by kernel_rfl
theorem innkeepref05_Seens.chk : chkFn Try.prog 16 innkeepref05_Seens.fn = true := by kernel_rfl
theorem tree_Under.chk : chkFn Try.prog 17 tree_Under.fn = true := by kernel_rfl
theorem innkeepref07_Under.chk : chkFn Try.prog 18 innkeepref07_Under.fn = true := by kernel_rfl
theorem tree_Root.chk : chkFn Try.prog 19 tree_Root.fn = true := by kernel_rfl
theorem innkeepref07_Root.chk : chkFn Try.prog 20 innkeepref07_Root.fn = true := by kernel_rfl
theorem tree_Depth.chk : chkFn Try.prog 21 tree_Depth.fn = true := by kernel_rfl
theorem innkeepref07_Depth.chk : chkFn Try.prog 22 innkeepref07_Depth.fn = true := by kernel_rfl
theorem tree_Height.chk : chkFn Try.prog 23 tree_Height.fn = true := by kernel_rfl
theorem innkeepref07_Height.chk : chkFn Try.prog 24 innkeepref07_Height.fn = true := by kernel_rfl
theorem innkeepref07_Within.chk : chkFn Try.prog 26 innkeepref07_Within.fn = true := by kernel_rfl
theorem innkeepref06_Copied.chk : chkFn Try.prog 27 innkeepref06_Copied.fn = true := by kernel_rfl
theorem innkeepref06_Same.chk : chkFn Try.prog 28 innkeepref06_Same.fn = true := by kernel_rfl
theorem innkeepref06_Right.chk : chkFn Try.prog 29 innkeepref06_Right.fn = true := by kernel_rfl
theorem innkeepref06_New.chk : chkFn Try.prog 30 innkeepref06_New.fn = true := by kernel_rfl
theorem innkeepref06_Few.chk : chkFn Try.prog 31 innkeepref06_Few.fn = true := by kernel_rfl
theorem innkeepref06_Cap.chk : chkFn Try.prog 32 innkeepref06_Cap.fn = true := by kernel_rfl
theorem innkeepref06_Many.chk : chkFn Try.prog 33 innkeepref06_Many.fn = true := by kernel_rfl
theorem tree_up.chk : chkFn Try.prog 35 tree_up.fn = true := by kernel_rfl
theorem innkeepref06_Depth.chk : chkFn Try.prog 36 innkeepref06_Depth.fn = true := by kernel_rfl
theorem innkeepref06_Places.chk : chkFn Try.prog 37 innkeepref06_Places.fn = true := by kernel_rfl
theorem innkeepref06_May.chk : chkFn Try.prog 38 innkeepref06_May.fn = true := by kernel_rfl
theorem innkeepref06_in.chk : chkFn Try.prog 39 innkeepref06_in.fn = true := by kernel_rfl
theorem innkeepref01_Is.chk : chkFn Try.prog 40 innkeepref01_Is.fn = true := by kernel_rfl
theorem prog_ok : ∀ f g, prog f = some g → chkFn Try.prog f g = true := fun f g h => by
  unfold prog at h
  split at h
  · cases h; exact innkeeplaw07_TreeAsks.chk
  · cases h; exact innkeeplaw07_TreeRoots.chk
  · cases h; exact innkeeplaw07_TreeWithin.chk
  · cases h; exact innkeeplaw07_TreeKeeps.chk
  · cases h; exact innkeeplaw07_TreeMoved.chk
  · cases h; exact innkeeplaw07_awake.chk
  · cases h; exact innkeeplaw07_fits.chk
  · cases h; exact innkeepref07_Is.chk
  · cases h; exact innkeepref03_Ints.chk
  · cases h; exact tree_In.chk
  · cases h; exact innkeepref07_In.chk
  · cases h; exact tree_Room.chk
  · cases h; exact innkeepref07_Room.chk
  · cases h; exact innkeepref05_Seens.chk
  · cases h; exact tree_Under.chk
  · cases h; exact innkeepref07_Under.chk
  · cases h; exact tree_Root.chk
  · cases h; exact innkeepref07_Root.chk
  · cases h; exact tree_Depth.chk
  · cases h; exact innkeepref07_Depth.chk
  · cases h; exact tree_Height.chk
  · cases h; exact innkeepref07_Height.chk
  · cases h; exact innkeepref07_Within.chk
  · cases h; exact innkeepref06_Copied.chk
  · cases h; exact innkeepref06_Same.chk
  · cases h; exact innkeepref06_Right.chk
  · cases h; exact innkeepref06_New.chk
  · cases h; exact innkeepref06_Few.chk
  · cases h; exact innkeepref06_Cap.chk
  · cases h; exact innkeepref06_Many.chk
  · cases h; exact tree_up.chk
  · cases h; exact innkeepref06_Depth.chk
  · cases h; exact innkeepref06_Places.chk
  · cases h; exact innkeepref06_May.chk
  · cases h; exact innkeepref06_in.chk
  · cases h; exact innkeepref01_Is.chk
  · cases h
end Go.Proofs.Ytlnnpcgfhcaafaa.Ghost
