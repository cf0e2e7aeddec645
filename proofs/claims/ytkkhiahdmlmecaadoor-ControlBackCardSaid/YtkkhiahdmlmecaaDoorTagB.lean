/-
  Tags: which may be; when two are one, strictly and loosely: the reference's functions.
-/
import Derived.Test.YtkkhiahdmlmecaaDoorTagA
namespace Go.Proofs.YtkkhiahdmlmecaaDoor
open Go.RowKit

end Go.Proofs.YtkkhiahdmlmecaaDoor
