/-
  The tag of a text: the program's walk.
-/
import Derived.Test.YtlfldnogjndglaaDoorStrL
import Derived.Test.YtlfldnogjndglaaDoorShA
import Derived.Test.YtlfldnogjndglaaDoorGrTb
import Derived.Outline
import Derived.Deep.DeepCutAuto
namespace Go.Proofs.YtlfldnogjndglaaDoor
open Go.RowKit
set_option linter.unusedVariables false
set_option linter.unusedSimpArgs false

theorem trim_any (s : ByteArray) (w : World) (hs : s.size ≤ 9223372036854775807) : Calls Tryd.prog 12 #[.string s, .string ⟨#[32, 9]⟩] w (StrOk (trimB s.data.toList) w) := by
  have h := Any.strings_Trim_laid lays160 (by kernel_rfl) s ⟨#[32, 9]⟩ w hs (by decide) (ascii_of_all (by decide))
  exact h.mono fun e w' h => ⟨⟨(trimB s.data.toList).toArray⟩, rfl, h.1, h.2⟩
end Go.Proofs.YtlfldnogjndglaaDoor
