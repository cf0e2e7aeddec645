/-
  Tags that are one, strictly: both functions.
-/
import Derived.Test.YtkkhiahdmlmecaaDoorTagB
namespace Go.Proofs.YtkkhiahdmlmecaaDoor
open Go.RowKit

end Go.Proofs.YtkkhiahdmlmecaaDoor
