/-
  The tables that the rows list, as a walk wants them.
-/
import Derived.Test.YtmelcndflllgmaaDoorWList
import Derived.Test.YtmelcndflllgmaaDoorRows
import Derived.LaidMore
import Derived.Lib.LaidTab
import Derived.LaidLaws
import Derived.Stop.LaidErr
import Derived.OpenShut
namespace Go.Proofs.YtmelcndflllgmaaDoor
open Go.ChangeShapes Go.WideShapes Go.ChangeAt Go.RowKit
set_option linter.unusedVariables false
set_option linter.unusedSimpArgs false

abbrev laidL {H : Type} : List (String × DataW H) := [("math/bits.deBruijn32tab", Rows.laid_math_bits_deBruijn32tab), ("math/bits.deBruijn64tab", Rows.laid_math_bits_deBruijn64tab), ("internal/strconv.uint64pow10", Rows.laid_internal_strconv_uint64pow10)]
set_option maxRecDepth 100000 in
theorem door_met (os : Os) (args : Array Value) : laidMetH Tryd.prog laidL ((World.doorLaid Tryd.prog 400 os).forCall (fun _ _ => 0) ⟨#[], args, []⟩).memory :=
  laidMetH_of_parts3 (fuel := 8) (laidMet_of_run' 8 (by kernel_rfl) (by kernel_rfl)) (by kernel_rfl) (by kernel_rfl)
theorem g10 : Tryd.prog.globalNamed "internal/strconv.uint64pow10" = some 0 := by kernel_rfl
theorem tab_of_laid {W : World} (h : laidMetH Tryd.prog laidL W) : Tab W := by
  rw [MakeChecks.laidMetH_plain _ _ _ (by kernel_rfl)] at h
  have h1 := laidMet.tail (laidMet.tail h)
  exact Lib.tabIs_of_head (g := 0) (t := 96) (e := 87) (n := 20) g10 (by kernel_rfl) Tryd.underlying96 Tryd.underlying87 (by kernel_rfl) (by kernel_rfl) h1

end Go.Proofs.YtmelcndflllgmaaDoor
