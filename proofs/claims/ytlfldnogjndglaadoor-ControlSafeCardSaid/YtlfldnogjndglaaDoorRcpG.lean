/-
  A version's ticks by a rule: the reference's walk.
-/
import Derived.Test.YtlfldnogjndglaaDoorCpG
import Derived.Test.YtlfldnogjndglaaDoorRctA
namespace Go.Proofs.YtlfldnogjndglaaDoor
open Go.RowKit
set_option linter.unusedVariables false
set_option linter.unusedSimpArgs false

end Go.Proofs.YtlfldnogjndglaaDoor
