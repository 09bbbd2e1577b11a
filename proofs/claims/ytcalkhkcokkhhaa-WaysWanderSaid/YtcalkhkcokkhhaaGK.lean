/- Each function's ghost code is the program's. Conditions: none. -/
import Derived.Test.YtcalkhkcokkhhaaA4
import Derived.Test.YtcalkhkcokkhhaaGF
import Derived.KernelRfl
import Derived.Test.YtcalkhkcokkhhaaProg
namespace Go.Proofs.Ytcalkhkcokkhhaa.Ghost
open Go
theorem innkeeplaw08_WaysMove.chk : chkFn Try.prog 3 innkeeplaw08_WaysMove.fn = true := by kernel_rfl
theorem innkeeplaw08_WaysGo.chk : chkFn Try.prog 4 innkeeplaw08_WaysGo.fn = true := by kernel_rfl
theorem innkeeplaw08_WaysBack.chk : chkFn Try.prog 5 innkeeplaw08_WaysBack.fn = true := by kernel_rfl
theorem innkeeplaw08_WaysWander.chk : chkFn Try.prog 6 innkeeplaw08_WaysWander.fn = true := by kernel_rfl
theorem innkeeplaw08_awake.chk : chkFn Try.prog 7 innkeeplaw08_awake.fn = true := by kernel_rfl
theorem innkeeplaw08_fits.chk : chkFn Try.prog 8 innkeeplaw08_fits.fn = true := by kernel_rfl
theorem ways_Move.chk : chkFn Try.prog 9 ways_Move.fn = true := by kernel_rfl
theorem innkeepref08_Move.chk : chkFn Try.prog 10 innkeepref08_Move.fn = true := by kernel_rfl
theorem ways_Push.chk : chkFn Try.prog 11 ways_Push.fn = true := by kernel_rfl
theorem innkeepref08_Push.chk : chkFn Try.prog 12 innkeepref08_Push.fn = true := by kernel_rfl
theorem ways_Exit.chk : chkFn Try.prog 13 ways_Exit.fn = true := by kernel_rfl
theorem innkeepref06_Same.chk : chkFn Try.prog 14 innkeepref06_Same.fn = true := by kernel_rfl
theorem innkeepref06_Right.chk : chkFn Try.prog 15 innkeepref06_Right.fn = true := by kernel_rfl
theorem innkeepref06_Places.chk : chkFn Try.prog 16 innkeepref06_Places.fn = true := by kernel_rfl
theorem innkeepref03_Ints.chk : chkFn Try.prog 17 innkeepref03_Ints.fn = true := by kernel_rfl
theorem innkeepref06_New.chk : chkFn Try.prog 18 innkeepref06_New.fn = true := by kernel_rfl
theorem innkeepref06_Few.chk : chkFn Try.prog 19 innkeepref06_Few.fn = true := by kernel_rfl
theorem ways_going.chk : chkFn Try.prog 20 ways_going.fn = true := by kernel_rfl
theorem ways_Move_1.chk : chkFn Try.prog 21 ways_Move_1.fn = true := by kernel_rfl
theorem innkeepref08_pass.chk : chkFn Try.prog 22 innkeepref08_pass.fn = true := by kernel_rfl
theorem ways_Push_1.chk : chkFn Try.prog 23 ways_Push_1.fn = true := by kernel_rfl
theorem innkeepref06_May.chk : chkFn Try.prog 24 innkeepref06_May.fn = true := by kernel_rfl
theorem innkeepref06_in.chk : chkFn Try.prog 25 innkeepref06_in.fn = true := by kernel_rfl
theorem innkeepref01_Is.chk : chkFn Try.prog 26 innkeepref01_Is.fn = true := by kernel_rfl
theorem innkeepref06_Depth.chk : chkFn Try.prog 27 innkeepref06_Depth.fn = true := by kernel_rfl
theorem innkeepref06_Many.chk : chkFn Try.prog 28 innkeepref06_Many.fn = true := by kernel_rfl
theorem innkeepref06_Cap.chk : chkFn Try.prog 29 innkeepref06_Cap.fn = true := by kernel_rfl
theorem ways_going_1.chk : chkFn Try.prog 30 ways_going_1.fn = true := by kernel_rfl
theorem desc_Copy.chk : chkFn Try.prog 31 desc_Copy.fn = true := by kernel_rfl
theorem innkeepref06_Copied.chk : chkFn Try.prog 32 innkeepref06_Copied.fn = true := by kernel_rfl
theorem prog_ok : ∀ f g, prog f = some g → chkFn Try.prog f g = true := fun f g h => by
  unfold prog at h
  split at h
  · cases h; exact innkeeplaw08_WaysMove.chk
  · cases h; exact innkeeplaw08_WaysGo.chk
  · cases h; exact innkeeplaw08_WaysBack.chk
  · cases h; exact innkeeplaw08_WaysWander.chk
  · cases h; exact innkeeplaw08_awake.chk
  · cases h; exact innkeeplaw08_fits.chk
  · cases h; exact ways_Move.chk
  · cases h; exact innkeepref08_Move.chk
  · cases h; exact ways_Push.chk
  · cases h; exact innkeepref08_Push.chk
  · cases h; exact ways_Exit.chk
  · cases h; exact innkeepref06_Same.chk
  · cases h; exact innkeepref06_Right.chk
  · cases h; exact innkeepref06_Places.chk
  · cases h; exact innkeepref03_Ints.chk
  · cases h; exact innkeepref06_New.chk
  · cases h; exact innkeepref06_Few.chk
  · cases h; exact ways_going.chk
  · cases h; exact ways_Move_1.chk
  · cases h; exact innkeepref08_pass.chk
  · cases h; exact ways_Push_1.chk
  · cases h; exact innkeepref06_May.chk
  · cases h; exact innkeepref06_in.chk
  · cases h; exact innkeepref01_Is.chk
  · cases h; exact innkeepref06_Depth.chk
  · cases h; exact innkeepref06_Many.chk
  · cases h; exact innkeepref06_Cap.chk
  · cases h; exact ways_going_1.chk
  · cases h; exact desc_Copy.chk
  · cases h; exact innkeepref06_Copied.chk
  · cases h
end Go.Proofs.Ytcalkhkcokkhhaa.Ghost
