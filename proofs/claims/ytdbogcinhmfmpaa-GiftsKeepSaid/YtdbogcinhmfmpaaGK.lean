/- Each function's ghost code is the program's. Conditions: none. -/
import Derived.Test.YtdbogcinhmfmpaaA4
import Derived.Test.YtdbogcinhmfmpaaGF
import Derived.KernelRfl
import Derived.Test.YtdbogcinhmfmpaaProg
namespace Go.Proofs.Ytdbogcinhmfmpaa.Ghost
open Go
theorem innkeeplaw11_GiftsDo.chk : chkFn Try.prog 3 innkeeplaw11_GiftsDo.fn = true := by kernel_rfl
theorem innkeeplaw11_GiftsKeep.chk : chkFn Try.prog 4 innkeeplaw11_GiftsKeep.fn = true := by kernel_rfl
theorem innkeeplaw11_GiftsGive.chk : chkFn Try.prog 5 innkeeplaw11_GiftsGive.fn = true := by kernel_rfl
theorem innkeeplaw11_GiftsNone.chk : chkFn Try.prog 6 innkeeplaw11_GiftsNone.fn = true := by kernel_rfl
theorem innkeeplaw11_awake.chk : chkFn Try.prog 7 innkeeplaw11_awake.fn = true := by kernel_rfl
theorem innkeeplaw11_fits.chk : chkFn Try.prog 8 innkeeplaw11_fits.fn = true := by kernel_rfl
theorem innkeepref03_Few.chk : chkFn Try.prog 9 innkeepref03_Few.fn = true := by kernel_rfl
theorem innkeepref03_May.chk : chkFn Try.prog 10 innkeepref03_May.fn = true := by kernel_rfl
theorem gifts_Give.chk : chkFn Try.prog 11 gifts_Give.fn = true := by kernel_rfl
theorem innkeepref11_Give.chk : chkFn Try.prog 12 innkeepref11_Give.fn = true := by kernel_rfl
theorem gifts_Trade.chk : chkFn Try.prog 13 gifts_Trade.fn = true := by kernel_rfl
theorem innkeepref11_Trade.chk : chkFn Try.prog 14 innkeepref11_Trade.fn = true := by kernel_rfl
theorem innkeepref06_Same.chk : chkFn Try.prog 15 innkeepref06_Same.fn = true := by kernel_rfl
theorem innkeepref11_Sum.chk : chkFn Try.prog 16 innkeepref11_Sum.fn = true := by kernel_rfl
theorem innkeepref06_Right.chk : chkFn Try.prog 17 innkeepref06_Right.fn = true := by kernel_rfl
theorem innkeepref06_Copied.chk : chkFn Try.prog 18 innkeepref06_Copied.fn = true := by kernel_rfl
theorem innkeepref09_Others.chk : chkFn Try.prog 19 innkeepref09_Others.fn = true := by kernel_rfl
theorem innkeepref06_Places.chk : chkFn Try.prog 20 innkeepref06_Places.fn = true := by kernel_rfl
theorem innkeepref06_New.chk : chkFn Try.prog 21 innkeepref06_New.fn = true := by kernel_rfl
theorem innkeepref03_Ints.chk : chkFn Try.prog 22 innkeepref03_Ints.fn = true := by kernel_rfl
theorem innkeepref06_Few.chk : chkFn Try.prog 23 innkeepref06_Few.fn = true := by kernel_rfl
theorem innkeepref03_fit.chk : chkFn Try.prog 24 innkeepref03_fit.fn = true := by kernel_rfl
theorem innkeepref03_row.chk : chkFn Try.prog 25 innkeepref03_row.fn = true := by kernel_rfl
theorem gifts_is.chk : chkFn Try.prog 26 gifts_is.fn = true := by kernel_rfl
theorem gifts_player.chk : chkFn Try.prog 27 gifts_player.fn = true := by kernel_rfl
theorem gifts_with.chk : chkFn Try.prog 28 gifts_with.fn = true := by kernel_rfl
theorem tree_Room.chk : chkFn Try.prog 29 tree_Room.fn = true := by kernel_rfl
theorem hold_To.chk : chkFn Try.prog 30 hold_To.fn = true := by kernel_rfl
theorem innkeepref07_Room.chk : chkFn Try.prog 31 innkeepref07_Room.fn = true := by kernel_rfl
theorem innkeepref09_To.chk : chkFn Try.prog 32 innkeepref09_To.fn = true := by kernel_rfl
theorem gifts_Trade_1.chk : chkFn Try.prog 34 gifts_Trade_1.fn = true := by kernel_rfl
theorem slices_ContainsFunc_sint_int.chk : chkFn Try.prog 35 slices_ContainsFunc_sint_int.fn = true := by kernel_rfl
theorem gifts_Trade_1_1.chk : chkFn Try.prog 36 gifts_Trade_1_1.fn = true := by kernel_rfl
theorem gifts_Trade_2.chk : chkFn Try.prog 37 gifts_Trade_2.fn = true := by kernel_rfl
theorem gifts_twice.chk : chkFn Try.prog 38 gifts_twice.fn = true := by kernel_rfl
theorem coin_Swap.chk : chkFn Try.prog 39 coin_Swap.fn = true := by kernel_rfl
theorem desc_Copy.chk : chkFn Try.prog 40 desc_Copy.fn = true := by kernel_rfl
theorem innkeepref01_Swap.chk : chkFn Try.prog 41 innkeepref01_Swap.fn = true := by kernel_rfl
theorem innkeepref06_May.chk : chkFn Try.prog 42 innkeepref06_May.fn = true := by kernel_rfl
theorem innkeepref06_in.chk : chkFn Try.prog 43 innkeepref06_in.fn = true := by kernel_rfl
theorem innkeepref01_Is.chk : chkFn Try.prog 44 innkeepref01_Is.fn = true := by kernel_rfl
theorem innkeepref06_Depth.chk : chkFn Try.prog 45 innkeepref06_Depth.fn = true := by kernel_rfl
theorem innkeepref06_Many.chk : chkFn Try.prog 46 innkeepref06_Many.fn = true := by kernel_rfl
theorem innkeepref06_Cap.chk : chkFn Try.prog 47 innkeepref06_Cap.fn = true := by kernel_rfl
theorem tree_In.chk : chkFn Try.prog 48 tree_In.fn = true := by kernel_rfl
theorem slices_IndexFunc_sint_int.chk : chkFn Try.prog 50 slices_IndexFunc_sint_int.fn = true := by kernel_rfl
theorem coin_Is.chk : chkFn Try.prog 51 coin_Is.fn = true := by kernel_rfl
theorem prog_ok : ∀ f g, prog f = some g → chkFn Try.prog f g = true := fun f g h => by
  unfold prog at h
  split at h
  · cases h; exact innkeeplaw11_GiftsDo.chk
  · cases h; exact innkeeplaw11_GiftsKeep.chk
  · cases h; exact innkeeplaw11_GiftsGive.chk
  · cases h; exact innkeeplaw11_GiftsNone.chk
  · cases h; exact innkeeplaw11_awake.chk
  · cases h; exact innkeeplaw11_fits.chk
  · cases h; exact innkeepref03_Few.chk
  · cases h; exact innkeepref03_May.chk
  · cases h; exact gifts_Give.chk
  · cases h; exact innkeepref11_Give.chk
  · cases h; exact gifts_Trade.chk
  · cases h; exact innkeepref11_Trade.chk
  · cases h; exact innkeepref06_Same.chk
  · cases h; exact innkeepref11_Sum.chk
  · cases h; exact innkeepref06_Right.chk
  · cases h; exact innkeepref06_Copied.chk
  · cases h; exact innkeepref09_Others.chk
  · cases h; exact innkeepref06_Places.chk
  · cases h; exact innkeepref06_New.chk
  · cases h; exact innkeepref03_Ints.chk
  · cases h; exact innkeepref06_Few.chk
  · cases h; exact innkeepref03_fit.chk
  · cases h; exact innkeepref03_row.chk
  · cases h; exact gifts_is.chk
  · cases h; exact gifts_player.chk
  · cases h; exact gifts_with.chk
  · cases h; exact tree_Room.chk
  · cases h; exact hold_To.chk
  · cases h; exact innkeepref07_Room.chk
  · cases h; exact innkeepref09_To.chk
  · cases h; exact gifts_Trade_1.chk
  · cases h; exact slices_ContainsFunc_sint_int.chk
  · cases h; exact gifts_Trade_1_1.chk
  · cases h; exact gifts_Trade_2.chk
  · cases h; exact gifts_twice.chk
  · cases h; exact coin_Swap.chk
  · cases h; exact desc_Copy.chk
  · cases h; exact innkeepref01_Swap.chk
  · cases h; exact innkeepref06_May.chk
  · cases h; exact innkeepref06_in.chk
  · cases h; exact innkeepref01_Is.chk
  · cases h; exact innkeepref06_Depth.chk
  · cases h; exact innkeepref06_Many.chk
  · cases h; exact innkeepref06_Cap.chk
  · cases h; exact tree_In.chk
  · cases h; exact slices_IndexFunc_sint_int.chk
  · cases h; exact coin_Is.chk
  · cases h
end Go.Proofs.Ytdbogcinhmfmpaa.Ghost
