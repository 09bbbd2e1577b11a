/- Each function's ghost code is the program's. Conditions: none. -/
import Derived.Test.YtmemggdjnfccfaaA4
import Derived.Test.YtmemggdjnfccfaaGF
import Derived.KernelRfl
import Derived.Test.YtmemggdjnfccfaaProg
namespace Go.Proofs.Ytmemggdjnfccfaa.Ghost
open Go
theorem innkeeplaw16_FootTells.chk:chkFn Try.prog 3 innkeeplaw16_FootTells.fn=true:=by kernel_rfl
theorem innkeeplaw16_FootFew.chk:chkFn Try.prog 4 innkeeplaw16_FootFew.fn=true:=by kernel_rfl
theorem innkeeplaw16_awake.chk:chkFn Try.prog 5 innkeeplaw16_awake.fn=true:=by kernel_rfl
theorem innkeeplaw16_fits.chk:chkFn Try.prog 6 innkeeplaw16_fits.fn=true:=by kernel_rfl
theorem innkeepref03_Few.chk:chkFn Try.prog 7 innkeepref03_Few.fn=true:=by kernel_rfl
theorem innkeepref03_May.chk:chkFn Try.prog 8 innkeepref03_May.fn=true:=by kernel_rfl
theorem innkeepref13_Do.chk:chkFn Try.prog 9 innkeepref13_Do.fn=true:=by kernel_rfl
theorem innkeepref14_Same.chk:chkFn Try.prog 10 innkeepref14_Same.fn=true:=by kernel_rfl
theorem foot_Of.chk:chkFn Try.prog 11 foot_Of.fn=true:=by kernel_rfl
theorem innkeepref16_Of.chk:chkFn Try.prog 12 innkeepref16_Of.fn=true:=by kernel_rfl
theorem foot_Covers.chk:chkFn Try.prog 13 foot_Covers.fn=true:=by kernel_rfl
theorem innkeepref16_Covers.chk:chkFn Try.prog 14 innkeepref16_Covers.fn=true:=by kernel_rfl
theorem innkeepref06_New.chk:chkFn Try.prog 15 innkeepref06_New.fn=true:=by kernel_rfl
theorem innkeepref06_Copied.chk:chkFn Try.prog 16 innkeepref06_Copied.fn=true:=by kernel_rfl
theorem innkeepref06_Few.chk:chkFn Try.prog 17 innkeepref06_Few.fn=true:=by kernel_rfl
theorem innkeepref06_Right.chk:chkFn Try.prog 18 innkeepref06_Right.fn=true:=by kernel_rfl
theorem innkeepref03_fit.chk:chkFn Try.prog 19 innkeepref03_fit.fn=true:=by kernel_rfl
theorem innkeepref03_row.chk:chkFn Try.prog 20 innkeepref03_row.fn=true:=by kernel_rfl
theorem innkeepref08_Move.chk:chkFn Try.prog 21 innkeepref08_Move.fn=true:=by kernel_rfl
theorem innkeepref08_Push.chk:chkFn Try.prog 22 innkeepref08_Push.fn=true:=by kernel_rfl
theorem innkeepref09_Get.chk:chkFn Try.prog 23 innkeepref09_Get.fn=true:=by kernel_rfl
theorem innkeepref09_Drop.chk:chkFn Try.prog 24 innkeepref09_Drop.fn=true:=by kernel_rfl
theorem innkeepref10_Put.chk:chkFn Try.prog 25 innkeepref10_Put.fn=true:=by kernel_rfl
theorem innkeepref10_Take.chk:chkFn Try.prog 26 innkeepref10_Take.fn=true:=by kernel_rfl
theorem innkeepref11_Give.chk:chkFn Try.prog 27 innkeepref11_Give.fn=true:=by kernel_rfl
theorem innkeepref11_Trade.chk:chkFn Try.prog 28 innkeepref11_Trade.fn=true:=by kernel_rfl
theorem innkeepref12_Look.chk:chkFn Try.prog 29 innkeepref12_Look.fn=true:=by kernel_rfl
theorem innkeepref12_Own.chk:chkFn Try.prog 30 innkeepref12_Own.fn=true:=by kernel_rfl
theorem ways_Exit.chk:chkFn Try.prog 31 ways_Exit.fn=true:=by kernel_rfl
theorem innkeepref14_Sort.chk:chkFn Try.prog 33 innkeepref14_Sort.fn=true:=by kernel_rfl
theorem foot_Covers_1.chk:chkFn Try.prog 34 foot_Covers_1.fn=true:=by kernel_rfl
theorem slices_Contains_sapi_Key_api_Key.chk:chkFn Try.prog 35 slices_Contains_sapi_Key_api_Key.fn=true:=by kernel_rfl
theorem tree_Root.chk:chkFn Try.prog 36 tree_Root.fn=true:=by kernel_rfl
theorem innkeepref16_Has.chk:chkFn Try.prog 37 innkeepref16_Has.fn=true:=by kernel_rfl
theorem innkeepref07_Root.chk:chkFn Try.prog 38 innkeepref07_Root.fn=true:=by kernel_rfl
theorem innkeepref06_May.chk:chkFn Try.prog 39 innkeepref06_May.fn=true:=by kernel_rfl
theorem innkeepref06_in.chk:chkFn Try.prog 40 innkeepref06_in.fn=true:=by kernel_rfl
theorem innkeepref01_Is.chk:chkFn Try.prog 41 innkeepref01_Is.fn=true:=by kernel_rfl
theorem innkeepref06_Depth.chk:chkFn Try.prog 42 innkeepref06_Depth.fn=true:=by kernel_rfl
theorem innkeepref06_Many.chk:chkFn Try.prog 43 innkeepref06_Many.fn=true:=by kernel_rfl
theorem innkeepref06_Cap.chk:chkFn Try.prog 44 innkeepref06_Cap.fn=true:=by kernel_rfl
theorem innkeepref08_pass.chk:chkFn Try.prog 45 innkeepref08_pass.fn=true:=by kernel_rfl
theorem innkeepref07_Room.chk:chkFn Try.prog 46 innkeepref07_Room.fn=true:=by kernel_rfl
theorem innkeepref09_To.chk:chkFn Try.prog 47 innkeepref09_To.fn=true:=by kernel_rfl
theorem innkeepref10_is.chk:chkFn Try.prog 48 innkeepref10_is.fn=true:=by kernel_rfl
theorem innkeepref10_Near.chk:chkFn Try.prog 49 innkeepref10_Near.fn=true:=by kernel_rfl
theorem innkeepref07_Within.chk:chkFn Try.prog 50 innkeepref07_Within.fn=true:=by kernel_rfl
theorem innkeepref01_Swap.chk:chkFn Try.prog 51 innkeepref01_Swap.fn=true:=by kernel_rfl
theorem innkeepref12_Present.chk:chkFn Try.prog 52 innkeepref12_Present.fn=true:=by kernel_rfl
theorem innkeepref07_Under.chk:chkFn Try.prog 53 innkeepref07_Under.fn=true:=by kernel_rfl
theorem innkeepref14_Less.chk:chkFn Try.prog 56 innkeepref14_Less.fn=true:=by kernel_rfl
theorem slices_Index_sapi_Key_api_Key.chk:chkFn Try.prog 57 slices_Index_sapi_Key_api_Key.fn=true:=by kernel_rfl
theorem tree_up.chk:chkFn Try.prog 59 tree_up.fn=true:=by kernel_rfl
theorem prog_ok:∀ f g,prog f=some g→chkFn Try.prog f g=true:=fun f g h=>by
  unfold prog at h
  split at h
  · cases h; exact innkeeplaw16_FootTells.chk
  · cases h; exact innkeeplaw16_FootFew.chk
  · cases h; exact innkeeplaw16_awake.chk
  · cases h; exact innkeeplaw16_fits.chk
  · cases h; exact innkeepref03_Few.chk
  · cases h; exact innkeepref03_May.chk
  · cases h; exact innkeepref13_Do.chk
  · cases h; exact innkeepref14_Same.chk
  · cases h; exact foot_Of.chk
  · cases h; exact innkeepref16_Of.chk
  · cases h; exact foot_Covers.chk
  · cases h; exact innkeepref16_Covers.chk
  · cases h; exact innkeepref06_New.chk
  · cases h; exact innkeepref06_Copied.chk
  · cases h; exact innkeepref06_Few.chk
  · cases h; exact innkeepref06_Right.chk
  · cases h; exact innkeepref03_fit.chk
  · cases h; exact innkeepref03_row.chk
  · cases h; exact innkeepref08_Move.chk
  · cases h; exact innkeepref08_Push.chk
  · cases h; exact innkeepref09_Get.chk
  · cases h; exact innkeepref09_Drop.chk
  · cases h; exact innkeepref10_Put.chk
  · cases h; exact innkeepref10_Take.chk
  · cases h; exact innkeepref11_Give.chk
  · cases h; exact innkeepref11_Trade.chk
  · cases h; exact innkeepref12_Look.chk
  · cases h; exact innkeepref12_Own.chk
  · cases h; exact ways_Exit.chk
  · cases h; exact innkeepref14_Sort.chk
  · cases h; exact foot_Covers_1.chk
  · cases h; exact slices_Contains_sapi_Key_api_Key.chk
  · cases h; exact tree_Root.chk
  · cases h; exact innkeepref16_Has.chk
  · cases h; exact innkeepref07_Root.chk
  · cases h; exact innkeepref06_May.chk
  · cases h; exact innkeepref06_in.chk
  · cases h; exact innkeepref01_Is.chk
  · cases h; exact innkeepref06_Depth.chk
  · cases h; exact innkeepref06_Many.chk
  · cases h; exact innkeepref06_Cap.chk
  · cases h; exact innkeepref08_pass.chk
  · cases h; exact innkeepref07_Room.chk
  · cases h; exact innkeepref09_To.chk
  · cases h; exact innkeepref10_is.chk
  · cases h; exact innkeepref10_Near.chk
  · cases h; exact innkeepref07_Within.chk
  · cases h; exact innkeepref01_Swap.chk
  · cases h; exact innkeepref12_Present.chk
  · cases h; exact innkeepref07_Under.chk
  · cases h; exact innkeepref14_Less.chk
  · cases h; exact slices_Index_sapi_Key_api_Key.chk
  · cases h; exact tree_up.chk
  · cases h
end Go.Proofs.Ytmemggdjnfccfaa.Ghost
