/- Each function's ghost code is the program's. Conditions: none. -/
import Derived.Test.YtkoefhpkdghpnaaA4
import Derived.Test.YtkoefhpkdghpnaaGF
import Derived.KernelRfl
import Derived.Test.YtkoefhpkdghpnaaProg
namespace Go.Proofs.Ytkoefhpkdghpnaa.Ghost
open Go
theorem innkeeplaw12_SightTells.chk : chkFn Try.prog 3 innkeeplaw12_SightTells.fn = true := by kernel_rfl
theorem innkeeplaw12_SightAll.chk : chkFn Try.prog 4 innkeeplaw12_SightAll.fn = true := by kernel_rfl
theorem innkeeplaw12_SightKeeps.chk : chkFn Try.prog 5 innkeeplaw12_SightKeeps.fn = true := by kernel_rfl
theorem innkeeplaw12_SightMoves.chk : chkFn Try.prog 6 innkeeplaw12_SightMoves.fn = true := by kernel_rfl
theorem innkeeplaw12_SightSame.chk : chkFn Try.prog 7 innkeeplaw12_SightSame.fn = true := by kernel_rfl
theorem innkeeplaw12_awake.chk : chkFn Try.prog 8 innkeeplaw12_awake.fn = true := by kernel_rfl
theorem innkeeplaw12_fits.chk : chkFn Try.prog 9 innkeeplaw12_fits.fn = true := by kernel_rfl
theorem innkeepref05_Same.chk : chkFn Try.prog 10 innkeepref05_Same.fn = true := by kernel_rfl
theorem sight_Look.chk : chkFn Try.prog 11 sight_Look.fn = true := by kernel_rfl
theorem innkeepref12_Look.chk : chkFn Try.prog 12 innkeepref12_Look.fn = true := by kernel_rfl
theorem sight_Own.chk : chkFn Try.prog 13 sight_Own.fn = true := by kernel_rfl
theorem innkeepref12_Own.chk : chkFn Try.prog 14 innkeepref12_Own.fn = true := by kernel_rfl
theorem innkeepref03_Ints.chk : chkFn Try.prog 15 innkeepref03_Ints.fn = true := by kernel_rfl
theorem sight_Present.chk : chkFn Try.prog 16 sight_Present.fn = true := by kernel_rfl
theorem innkeepref12_Present.chk : chkFn Try.prog 17 innkeepref12_Present.fn = true := by kernel_rfl
theorem innkeepref05_May.chk : chkFn Try.prog 18 innkeepref05_May.fn = true := by kernel_rfl
theorem innkeepref06_Copied.chk : chkFn Try.prog 19 innkeepref06_Copied.fn = true := by kernel_rfl
theorem innkeepref06_Same.chk : chkFn Try.prog 20 innkeepref06_Same.fn = true := by kernel_rfl
theorem innkeepref06_Right.chk : chkFn Try.prog 21 innkeepref06_Right.fn = true := by kernel_rfl
theorem innkeepref06_New.chk : chkFn Try.prog 22 innkeepref06_New.fn = true := by kernel_rfl
theorem innkeepref06_Few.chk : chkFn Try.prog 23 innkeepref06_Few.fn = true := by kernel_rfl
theorem innkeepref05_Seens.chk : chkFn Try.prog 24 innkeepref05_Seens.fn = true := by kernel_rfl
theorem tree_Under.chk : chkFn Try.prog 25 tree_Under.fn = true := by kernel_rfl
theorem innkeepref07_Under.chk : chkFn Try.prog 26 innkeepref07_Under.fn = true := by kernel_rfl
theorem innkeepref05_fit.chk : chkFn Try.prog 27 innkeepref05_fit.fn = true := by kernel_rfl
theorem innkeepref06_Places.chk : chkFn Try.prog 28 innkeepref06_Places.fn = true := by kernel_rfl
theorem innkeepref06_May.chk : chkFn Try.prog 29 innkeepref06_May.fn = true := by kernel_rfl
theorem innkeepref06_in.chk : chkFn Try.prog 30 innkeepref06_in.fn = true := by kernel_rfl
theorem innkeepref01_Is.chk : chkFn Try.prog 31 innkeepref01_Is.fn = true := by kernel_rfl
theorem innkeepref06_Depth.chk : chkFn Try.prog 32 innkeepref06_Depth.fn = true := by kernel_rfl
theorem innkeepref06_Many.chk : chkFn Try.prog 33 innkeepref06_Many.fn = true := by kernel_rfl
theorem innkeepref06_Cap.chk : chkFn Try.prog 34 innkeepref06_Cap.fn = true := by kernel_rfl
theorem tree_Root.chk : chkFn Try.prog 35 tree_Root.fn = true := by kernel_rfl
theorem innkeepref07_Root.chk : chkFn Try.prog 36 innkeepref07_Root.fn = true := by kernel_rfl
theorem tree_up.chk : chkFn Try.prog 38 tree_up.fn = true := by kernel_rfl
theorem prog_ok : ∀ f g, prog f = some g → chkFn Try.prog f g = true := fun f g h => by
  unfold prog at h
  split at h
  · cases h; exact innkeeplaw12_SightTells.chk
  · cases h; exact innkeeplaw12_SightAll.chk
  · cases h; exact innkeeplaw12_SightKeeps.chk
  · cases h; exact innkeeplaw12_SightMoves.chk
  · cases h; exact innkeeplaw12_SightSame.chk
  · cases h; exact innkeeplaw12_awake.chk
  · cases h; exact innkeeplaw12_fits.chk
  · cases h; exact innkeepref05_Same.chk
  · cases h; exact sight_Look.chk
  · cases h; exact innkeepref12_Look.chk
  · cases h; exact sight_Own.chk
  · cases h; exact innkeepref12_Own.chk
  · cases h; exact innkeepref03_Ints.chk
  · cases h; exact sight_Present.chk
  · cases h; exact innkeepref12_Present.chk
  · cases h; exact innkeepref05_May.chk
  · cases h; exact innkeepref06_Copied.chk
  · cases h; exact innkeepref06_Same.chk
  · cases h; exact innkeepref06_Right.chk
  · cases h; exact innkeepref06_New.chk
  · cases h; exact innkeepref06_Few.chk
  · cases h; exact innkeepref05_Seens.chk
  · cases h; exact tree_Under.chk
  · cases h; exact innkeepref07_Under.chk
  · cases h; exact innkeepref05_fit.chk
  · cases h; exact innkeepref06_Places.chk
  · cases h; exact innkeepref06_May.chk
  · cases h; exact innkeepref06_in.chk
  · cases h; exact innkeepref01_Is.chk
  · cases h; exact innkeepref06_Depth.chk
  · cases h; exact innkeepref06_Many.chk
  · cases h; exact innkeepref06_Cap.chk
  · cases h; exact tree_Root.chk
  · cases h; exact innkeepref07_Root.chk
  · cases h; exact tree_up.chk
  · cases h
end Go.Proofs.Ytkoefhpkdghpnaa.Ghost
