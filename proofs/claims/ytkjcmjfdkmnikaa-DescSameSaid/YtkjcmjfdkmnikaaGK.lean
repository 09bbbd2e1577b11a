/- Each function's ghost code is the program's. Conditions: none. -/
import Derived.Test.YtkjcmjfdkmnikaaA4
import Derived.Test.YtkjcmjfdkmnikaaGF
import Derived.KernelRfl
import Derived.Test.YtkjcmjfdkmnikaaProg
namespace Go.Proofs.Ytkjcmjfdkmnikaa.Ghost
open Go
theorem innkeeplaw06_DescMakes.chk : chkFn Try.prog 3 innkeeplaw06_DescMakes.fn = true := by kernel_rfl
theorem innkeeplaw06_DescRight.chk : chkFn Try.prog 4 innkeeplaw06_DescRight.fn = true := by kernel_rfl
theorem innkeeplaw06_DescKeeps.chk : chkFn Try.prog 5 innkeeplaw06_DescKeeps.fn = true := by kernel_rfl
theorem innkeeplaw06_DescCaps.chk : chkFn Try.prog 6 innkeeplaw06_DescCaps.fn = true := by kernel_rfl
theorem innkeeplaw06_DescSame.chk : chkFn Try.prog 7 innkeeplaw06_DescSame.fn = true := by kernel_rfl
theorem innkeeplaw06_awake.chk : chkFn Try.prog 8 innkeeplaw06_awake.fn = true := by kernel_rfl
theorem innkeepref06_Few.chk : chkFn Try.prog 9 innkeepref06_Few.fn = true := by kernel_rfl
theorem desc_New.chk : chkFn Try.prog 10 desc_New.fn = true := by kernel_rfl
theorem desc_May.chk : chkFn Try.prog 11 desc_May.fn = true := by kernel_rfl
theorem innkeepref06_May.chk : chkFn Try.prog 12 innkeepref06_May.fn = true := by kernel_rfl
theorem desc_Right.chk : chkFn Try.prog 13 desc_Right.fn = true := by kernel_rfl
theorem innkeepref06_Right.chk : chkFn Try.prog 14 innkeepref06_Right.fn = true := by kernel_rfl
theorem desc_Same.chk : chkFn Try.prog 15 desc_Same.fn = true := by kernel_rfl
theorem innkeepref06_Same.chk : chkFn Try.prog 16 innkeepref06_Same.fn = true := by kernel_rfl
theorem desc_Copy.chk : chkFn Try.prog 17 desc_Copy.fn = true := by kernel_rfl
theorem innkeepref06_New.chk : chkFn Try.prog 18 innkeepref06_New.fn = true := by kernel_rfl
theorem innkeepref06_Many.chk : chkFn Try.prog 19 innkeepref06_Many.fn = true := by kernel_rfl
theorem innkeepref06_Copied.chk : chkFn Try.prog 20 innkeepref06_Copied.fn = true := by kernel_rfl
theorem desc_May_1.chk : chkFn Try.prog 22 desc_May_1.fn = true := by kernel_rfl
theorem desc_is.chk : chkFn Try.prog 23 desc_is.fn = true := by kernel_rfl
theorem desc_May_2.chk : chkFn Try.prog 24 desc_May_2.fn = true := by kernel_rfl
theorem desc_all_int.chk : chkFn Try.prog 25 desc_all_int.fn = true := by kernel_rfl
theorem desc_May_2_1.chk : chkFn Try.prog 26 desc_May_2_1.fn = true := by kernel_rfl
theorem desc_holds.chk : chkFn Try.prog 27 desc_holds.fn = true := by kernel_rfl
theorem desc_all_a4int.chk : chkFn Try.prog 28 desc_all_a4int.fn = true := by kernel_rfl
theorem coin_Is.chk : chkFn Try.prog 29 coin_Is.fn = true := by kernel_rfl
theorem desc_May_3.chk : chkFn Try.prog 30 desc_May_3.fn = true := by kernel_rfl
theorem innkeepref06_in.chk : chkFn Try.prog 31 innkeepref06_in.fn = true := by kernel_rfl
theorem innkeepref01_Is.chk : chkFn Try.prog 32 innkeepref01_Is.fn = true := by kernel_rfl
theorem desc_Right_1.chk : chkFn Try.prog 33 desc_Right_1.fn = true := by kernel_rfl
theorem desc_Right_2.chk : chkFn Try.prog 34 desc_Right_2.fn = true := by kernel_rfl
theorem desc_all_api_Place.chk : chkFn Try.prog 35 desc_all_api_Place.fn = true := by kernel_rfl
theorem desc_Right_3.chk : chkFn Try.prog 36 desc_Right_3.fn = true := by kernel_rfl
theorem innkeepref06_Depth.chk : chkFn Try.prog 37 innkeepref06_Depth.fn = true := by kernel_rfl
theorem innkeepref06_Cap.chk : chkFn Try.prog 38 innkeepref06_Cap.fn = true := by kernel_rfl
theorem desc_sameDesc.chk : chkFn Try.prog 39 desc_sameDesc.fn = true := by kernel_rfl
theorem slices_Equal_sint_int.chk : chkFn Try.prog 40 slices_Equal_sint_int.fn = true := by kernel_rfl
theorem slices_Equal_sapi_Place_api_Place.chk : chkFn Try.prog 41 slices_Equal_sapi_Place_api_Place.fn = true := by kernel_rfl
theorem innkeepref03_Ints.chk : chkFn Try.prog 42 innkeepref03_Ints.fn = true := by kernel_rfl
theorem innkeepref06_Places.chk : chkFn Try.prog 43 innkeepref06_Places.fn = true := by kernel_rfl
theorem slices_ContainsFunc_sint_int.chk : chkFn Try.prog 45 slices_ContainsFunc_sint_int.fn = true := by kernel_rfl
theorem desc_all_int_1.chk : chkFn Try.prog 46 desc_all_int_1.fn = true := by kernel_rfl
theorem slices_ContainsFunc_sa4int_a4int.chk : chkFn Try.prog 47 slices_ContainsFunc_sa4int_a4int.fn = true := by kernel_rfl
theorem desc_all_a4int_1.chk : chkFn Try.prog 48 desc_all_a4int_1.fn = true := by kernel_rfl
theorem slices_ContainsFunc_sapi_Place_api_Place.chk : chkFn Try.prog 49 slices_ContainsFunc_sapi_Place_api_Place.fn = true := by kernel_rfl
theorem desc_all_api_Place_1.chk : chkFn Try.prog 50 desc_all_api_Place_1.fn = true := by kernel_rfl
theorem slices_Equal_sa4int_a4int.chk : chkFn Try.prog 51 slices_Equal_sa4int_a4int.fn = true := by kernel_rfl
theorem slices_Equal_sbool_bool.chk : chkFn Try.prog 52 slices_Equal_sbool_bool.fn = true := by kernel_rfl
theorem slices_IndexFunc_sint_int.chk : chkFn Try.prog 53 slices_IndexFunc_sint_int.fn = true := by kernel_rfl
theorem slices_IndexFunc_sa4int_a4int.chk : chkFn Try.prog 54 slices_IndexFunc_sa4int_a4int.fn = true := by kernel_rfl
theorem slices_IndexFunc_sapi_Place_api_Place.chk : chkFn Try.prog 55 slices_IndexFunc_sapi_Place_api_Place.fn = true := by kernel_rfl
theorem prog_ok : ∀ f g, prog f = some g → chkFn Try.prog f g = true := fun f g h => by
  unfold prog at h
  split at h
  · cases h; exact innkeeplaw06_DescMakes.chk
  · cases h; exact innkeeplaw06_DescRight.chk
  · cases h; exact innkeeplaw06_DescKeeps.chk
  · cases h; exact innkeeplaw06_DescCaps.chk
  · cases h; exact innkeeplaw06_DescSame.chk
  · cases h; exact innkeeplaw06_awake.chk
  · cases h; exact innkeepref06_Few.chk
  · cases h; exact desc_New.chk
  · cases h; exact desc_May.chk
  · cases h; exact innkeepref06_May.chk
  · cases h; exact desc_Right.chk
  · cases h; exact innkeepref06_Right.chk
  · cases h; exact desc_Same.chk
  · cases h; exact innkeepref06_Same.chk
  · cases h; exact desc_Copy.chk
  · cases h; exact innkeepref06_New.chk
  · cases h; exact innkeepref06_Many.chk
  · cases h; exact innkeepref06_Copied.chk
  · cases h; exact desc_May_1.chk
  · cases h; exact desc_is.chk
  · cases h; exact desc_May_2.chk
  · cases h; exact desc_all_int.chk
  · cases h; exact desc_May_2_1.chk
  · cases h; exact desc_holds.chk
  · cases h; exact desc_all_a4int.chk
  · cases h; exact coin_Is.chk
  · cases h; exact desc_May_3.chk
  · cases h; exact innkeepref06_in.chk
  · cases h; exact innkeepref01_Is.chk
  · cases h; exact desc_Right_1.chk
  · cases h; exact desc_Right_2.chk
  · cases h; exact desc_all_api_Place.chk
  · cases h; exact desc_Right_3.chk
  · cases h; exact innkeepref06_Depth.chk
  · cases h; exact innkeepref06_Cap.chk
  · cases h; exact desc_sameDesc.chk
  · cases h; exact slices_Equal_sint_int.chk
  · cases h; exact slices_Equal_sapi_Place_api_Place.chk
  · cases h; exact innkeepref03_Ints.chk
  · cases h; exact innkeepref06_Places.chk
  · cases h; exact slices_ContainsFunc_sint_int.chk
  · cases h; exact desc_all_int_1.chk
  · cases h; exact slices_ContainsFunc_sa4int_a4int.chk
  · cases h; exact desc_all_a4int_1.chk
  · cases h; exact slices_ContainsFunc_sapi_Place_api_Place.chk
  · cases h; exact desc_all_api_Place_1.chk
  · cases h; exact slices_Equal_sa4int_a4int.chk
  · cases h; exact slices_Equal_sbool_bool.chk
  · cases h; exact slices_IndexFunc_sint_int.chk
  · cases h; exact slices_IndexFunc_sa4int_a4int.chk
  · cases h; exact slices_IndexFunc_sapi_Place_api_Place.chk
  · cases h
end Go.Proofs.Ytkjcmjfdkmnikaa.Ghost
