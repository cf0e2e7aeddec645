/-
  One directive more: the reference's walk.
-/
import Derived.Test.YtlfldnogjndglaaDoorRcpB
import Derived.Test.YtlfldnogjndglaaDoorCpE
import Derived.Deep.DeepCutAuto
import Derived.Deep.CutBlock
namespace Go.Proofs.YtlfldnogjndglaaDoor
open Go.RowKit
set_option linter.unusedVariables false
set_option linter.unusedSimpArgs false

end Go.Proofs.YtlfldnogjndglaaDoor
