/-
  The tables that the row of the chunked body lists.
-/
import Derived.Test.YtiigkacmahecaaaDoorGrHx
import Derived.Test.YtiigkacmahecaaaDoorRows
import Derived.LaidMore
import Derived.Lay
import Derived.LaidOnce
import Derived.Lib.LaidTab
import Derived.LaidLaws
import Derived.Stop.LaidErr
import Derived.OpenShut
namespace Go.Proofs.YtiigkacmahecaaaDoor
open Go.ChangeShapes Go.WideShapes Go.ChangeAt Go.RowKit
set_option linter.unusedVariables false
set_option linter.unusedSimpArgs false

abbrev laidC : List (String × DataW Unit) := [("math/bits.deBruijn32tab", Rows.laid_math_bits_deBruijn32tab), ("math/bits.deBruijn64tab", Rows.laid_math_bits_deBruijn64tab), ("internal/strconv.uint64pow10", Rows.laid_internal_strconv_uint64pow10), ("unicode/utf8.acceptRanges", Rows.laid_unicode_utf8_acceptRanges), ("unicode/utf8.first", Rows.laid_unicode_utf8_first)]
def tab64 : List Int := [0, 1, 56, 2, 57, 49, 28, 3, 61, 58, 42, 50, 38, 29, 17, 4, 62, 47, 59, 36, 45, 43, 51, 22, 53, 39, 33, 30, 24, 18, 12, 5, 63, 55, 48, 27, 60, 41, 37, 16, 46, 35, 44, 21, 52, 32, 23, 11, 54, 26, 40, 15, 34, 20, 31, 10, 25, 14, 19, 9, 13, 8, 7, 6]
theorem g64 : Tryd.prog.globalNamed "math/bits.deBruijn64tab" = some 5 := by kernel_rfl
theorem tab_of_laid {W : World} (h : laidMetH Tryd.prog laidC W) : Tab W := by
  rw [MakeChecks.laidMetH_plain _ _ _ (by kernel_rfl)] at h
  have h1 := laidMet.tail h
  have ht : Lib.TabIs Tryd.prog W "math/bits.deBruijn64tab" .u8 tab64 := Lib.tabIs_of_head (g := 5) (t := 134) (e := 5) (n := 64) g64 (by kernel_rfl) Tryd.underlying134 Tryd.underlying5 (by kernel_rfl) (by kernel_rfl) h1
  exact ht.cell g64 15 (by decide)

end Go.Proofs.YtiigkacmahecaaaDoor
