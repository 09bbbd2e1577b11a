/- Each function's ghost code is the program's. Conditions: none. -/
import Derived.Test.YtobegmljkfphjaaA4
import Derived.Test.YtobegmljkfphjaaGF
import Derived.KernelRfl
import Derived.Test.YtobegmljkfphjaaProg
namespace Go.Proofs.Ytobegmljkfphjaa.Ghost
open Go
theorem innkeeplaw14_KeysSort.chk : chkFn Try.prog 3 innkeeplaw14_KeysSort.fn = true := by kernel_rfl
theorem innkeeplaw14_KeysPlace.chk : chkFn Try.prog 4 innkeeplaw14_KeysPlace.fn = true := by kernel_rfl
theorem innkeeplaw14_KeysOrder.chk : chkFn Try.prog 5 innkeeplaw14_KeysOrder.fn = true := by kernel_rfl
theorem innkeeplaw14_KeysKeep.chk : chkFn Try.prog 6 innkeeplaw14_KeysKeep.fn = true := by kernel_rfl
theorem innkeeplaw14_KeysFrom.chk : chkFn Try.prog 7 innkeeplaw14_KeysFrom.fn = true := by kernel_rfl
theorem innkeeplaw14_awake.chk : chkFn Try.prog 8 innkeeplaw14_awake.fn = true := by kernel_rfl
theorem keys_Less.chk : chkFn Try.prog 9 keys_Less.fn = true := by kernel_rfl
theorem innkeepref14_Less.chk : chkFn Try.prog 10 innkeepref14_Less.fn = true := by kernel_rfl
theorem innkeepref14_Same.chk : chkFn Try.prog 11 innkeepref14_Same.fn = true := by kernel_rfl
theorem innkeepref14_Sort.chk : chkFn Try.prog 13 innkeepref14_Sort.fn = true := by kernel_rfl
theorem innkeepref06_Few.chk : chkFn Try.prog 14 innkeepref06_Few.fn = true := by kernel_rfl
theorem keys_Place.chk : chkFn Try.prog 15 keys_Place.fn = true := by kernel_rfl
theorem keys_At.chk : chkFn Try.prog 16 keys_At.fn = true := by kernel_rfl
theorem innkeepref14_Place.chk : chkFn Try.prog 17 innkeepref14_Place.fn = true := by kernel_rfl
theorem keys_Many.chk : chkFn Try.prog 18 keys_Many.fn = true := by kernel_rfl
theorem keys_compare.chk : chkFn Try.prog 19 keys_compare.fn = true := by kernel_rfl
theorem cmp_Or_int.chk : chkFn Try.prog 21 cmp_Or_int.fn = true := by kernel_rfl
theorem cmp_Compare_int.chk : chkFn Try.prog 22 cmp_Compare_int.fn = true := by kernel_rfl
theorem cmp_isNaN_int.chk : chkFn Try.prog 25 cmp_isNaN_int.fn = true := by kernel_rfl
theorem prog_ok : ∀ f g, prog f = some g → chkFn Try.prog f g = true := fun f g h => by
  unfold prog at h
  split at h
  · cases h; exact innkeeplaw14_KeysSort.chk
  · cases h; exact innkeeplaw14_KeysPlace.chk
  · cases h; exact innkeeplaw14_KeysOrder.chk
  · cases h; exact innkeeplaw14_KeysKeep.chk
  · cases h; exact innkeeplaw14_KeysFrom.chk
  · cases h; exact innkeeplaw14_awake.chk
  · cases h; exact keys_Less.chk
  · cases h; exact innkeepref14_Less.chk
  · cases h; exact innkeepref14_Same.chk
  · cases h; exact innkeepref14_Sort.chk
  · cases h; exact innkeepref06_Few.chk
  · cases h; exact keys_Place.chk
  · cases h; exact keys_At.chk
  · cases h; exact innkeepref14_Place.chk
  · cases h; exact keys_Many.chk
  · cases h; exact keys_compare.chk
  · cases h; exact cmp_Or_int.chk
  · cases h; exact cmp_Compare_int.chk
  · cases h; exact cmp_isNaN_int.chk
  · cases h
end Go.Proofs.Ytobegmljkfphjaa.Ghost
