/-
  What conditions come to: the reference's Check.
-/
import Derived.Test.YtkmheoolekookaaDoorCondC
import Derived.Deep.DeepCutAuto
import Derived.Deep.CutBlock
namespace Go.Proofs.YtkmheoolekookaaDoor
open Go.RowKit

end Go.Proofs.YtkmheoolekookaaDoor
