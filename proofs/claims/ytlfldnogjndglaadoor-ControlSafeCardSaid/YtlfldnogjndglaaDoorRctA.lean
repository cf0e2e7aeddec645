/-
  A version's ticks as a rule: the reference's functions.
-/
import Derived.Test.YtlfldnogjndglaaDoorCtlA
import Derived.Deep.DeepCutAuto
import Derived.Deep.RegionHeld3
namespace Go.Proofs.YtlfldnogjndglaaDoor
open Go.RowKit
set_option linter.unusedVariables false
set_option linter.unusedSimpArgs false

def capV (n : Int) : Int := min n 1099511627776
theorem with_cap (n : Int) : withinV n = if n < 0 then 0 else capV n := by unfold withinV capV; split <;> omega

end Go.Proofs.YtlfldnogjndglaaDoor
