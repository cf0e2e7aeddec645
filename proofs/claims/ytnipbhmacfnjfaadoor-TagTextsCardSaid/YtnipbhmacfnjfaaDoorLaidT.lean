/-
  The tables that the rows list.
-/
import Derived.Test.YtnipbhmacfnjfaaDoorRows
import Derived.LaidMore
import Derived.Lay
import Derived.LaidOnce
import Derived.OpenShut
namespace Go.Proofs.YtnipbhmacfnjfaaDoor
open Go.ChangeShapes Go.WideShapes Go.RowKit
abbrev laidL : List (String × DataW Unit) := [("unicode/utf8.acceptRanges", Rows.laid_unicode_utf8_acceptRanges), ("unicode/utf8.first", Rows.laid_unicode_utf8_first)]
end Go.Proofs.YtnipbhmacfnjfaaDoor
