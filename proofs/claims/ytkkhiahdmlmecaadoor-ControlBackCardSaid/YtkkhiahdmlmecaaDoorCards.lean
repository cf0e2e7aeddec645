/-
  DERIVED. GIVEN WITH THE SEED: THE CARDS: each row of YtkkhiahdmlmecaaDoorRows.lean that lists a variable, with what it lists TIED to the program's text (the seventh form; the later family's looks); each row that meets fmt, with fmt's text TOLD by the authors' own Lean function (tested against real Go, not proved from fmt's source: count such statements apart). THE CARD IS WHAT COUNTS. Prove the row's statement (the work); the ties are given (YtkkhiahdmlmecaaDoorTie.lean); close each card by the builder's one call (the guide's Derived/Test/ToyasCard.lean, 'card_holds'). Laid BY PROGRAM, IN A SANDBOX (cutbox-door.mjs). By AI agents, Wed Nov 11 2026. No macro, syntax, notation, axiom, sorry.
-/
import Derived.Test.YtkkhiahdmlmecaaDoorRows
import GoSem.ClaimSeven
namespace Go.Proofs.YtkkhiahdmlmecaaDoor
namespace Rows

/-- THE TIED CARD OF 'mandolinelaw09.ControlParses'. -/
def controlParsesCard : Claim7 := { stood := { row := controlParsesRow, standIns := [], harness := (true, "47bf4a7fe6062e09cc840642f666f4950bf45abcb44de0de44643b9d1afe0cfc"), looks := false }, kinds := [], alts := [], laidByText := true, laidKinds := [.data, .data, .data, .data, .pinned], laidTests := true, laidLooks := .later }
def ControlParsesCardSaid : Prop := Claim7.holds Tryd.pinned (.plain (OpenSpec.ofChange controlParsesSpec)) controlParsesCard

/-- THE TIED CARD OF 'mandolinelaw09.ControlTexts'. -/
def controlTextsCard : Claim7 := { stood := { row := controlTextsRow, standIns := [], harness := (true, "47bf4a7fe6062e09cc840642f666f4950bf45abcb44de0de44643b9d1afe0cfc"), looks := false }, kinds := [], alts := [], laidByText := true, laidKinds := [.data, .data, .data, .data, .pinned], laidTests := true, laidLooks := .later }
def ControlTextsCardSaid : Prop := Claim7.holds Tryd.pinned (.plain (OpenSpec.ofChange controlTextsSpec)) controlTextsCard

/-- THE TIED CARD OF 'mandolinelaw09.ControlApplies'. -/
def controlAppliesCard : Claim7 := { stood := { row := controlAppliesRow, standIns := [], harness := (true, "47bf4a7fe6062e09cc840642f666f4950bf45abcb44de0de44643b9d1afe0cfc"), looks := false }, kinds := [], alts := [], laidByText := true, laidKinds := [.data, .data, .data, .data, .pinned], laidTests := true, laidLooks := .later }
def ControlAppliesCardSaid : Prop := Claim7.holds Tryd.pinned (.plain (OpenSpec.ofChange controlAppliesSpec)) controlAppliesCard

/-- THE TIED CARD OF 'mandolinelaw09.ControlOf'. -/
def controlOfCard : Claim7 := { stood := { row := controlOfRow, standIns := [], harness := (true, "47bf4a7fe6062e09cc840642f666f4950bf45abcb44de0de44643b9d1afe0cfc"), looks := false }, kinds := [], alts := [], laidByText := true, laidKinds := [.data, .data, .data, .data, .pinned], laidTests := true, laidLooks := .later }
def ControlOfCardSaid : Prop := Claim7.holds Tryd.pinned (.plain (OpenSpec.ofChange controlOfSpec)) controlOfCard

/-- THE TIED CARD OF 'mandolinelaw09.ControlAge'. -/
def controlAgeCard : Claim7 := { stood := { row := controlAgeRow, standIns := [], harness := (true, "47bf4a7fe6062e09cc840642f666f4950bf45abcb44de0de44643b9d1afe0cfc"), looks := false }, kinds := [], alts := [], laidByText := true, laidKinds := [.data, .data, .data, .data, .pinned], laidTests := true, laidLooks := .later }
def ControlAgeCardSaid : Prop := Claim7.holds Tryd.pinned (.plain (OpenSpec.ofChange controlAgeSpec)) controlAgeCard

/-- THE TIED CARD OF 'mandolinelaw09.ControlBack'. -/
def controlBackCard : Claim7 := { stood := { row := controlBackRow, standIns := [], harness := (true, "47bf4a7fe6062e09cc840642f666f4950bf45abcb44de0de44643b9d1afe0cfc"), looks := false }, kinds := [], alts := [], laidByText := true, laidKinds := [.data, .data, .data, .data, .pinned], laidTests := true, laidLooks := .later }
def ControlBackCardSaid : Prop := Claim7.holds Tryd.pinned (.plain (OpenSpec.ofChange controlBackSpec)) controlBackCard

/-- THE TIED CARD OF 'mandolinelaw09.ControlMix'. -/
def controlMixCard : Claim7 := { stood := { row := controlMixRow, standIns := [], harness := (true, "47bf4a7fe6062e09cc840642f666f4950bf45abcb44de0de44643b9d1afe0cfc"), looks := false }, kinds := [], alts := [], laidByText := true, laidKinds := [.data, .data, .data, .data, .pinned], laidTests := true, laidLooks := .later }
def ControlMixCardSaid : Prop := Claim7.holds Tryd.pinned (.plain (OpenSpec.ofChange controlMixSpec)) controlMixCard

/-- THE TIED CARD OF 'mandolinelaw09.ControlSafe'. -/
def controlSafeCard : Claim7 := { stood := { row := controlSafeRow, standIns := [], harness := (true, "47bf4a7fe6062e09cc840642f666f4950bf45abcb44de0de44643b9d1afe0cfc"), looks := false }, kinds := [], alts := [], laidByText := true, laidKinds := [.data, .data, .data, .data, .pinned], laidTests := true, laidLooks := .later }
def ControlSafeCardSaid : Prop := Claim7.holds Tryd.pinned (.plain (OpenSpec.ofChange controlSafeSpec)) controlSafeCard

/-- THE SECOND FORM's CARD OF 'mandolinelaw09.ControlParses'. -/
def controlParsesUptoCard : Claim7 := { stood := { row := controlParsesUptoRow, standIns := [], harness := (true, "47bf4a7fe6062e09cc840642f666f4950bf45abcb44de0de44643b9d1afe0cfc"), looks := false }, kinds := [], alts := [], laidByText := true, laidKinds := [.data, .data, .data, .data, .pinned], laidTests := true, laidLooks := .later }
def ControlParsesUptoCardSaid : Prop := Claim7.holds Tryd.pinned (.plain (OpenSpec.upto controlParsesSpec)) controlParsesUptoCard

/-- THE SECOND FORM's CARD OF 'mandolinelaw09.ControlTexts'. -/
def controlTextsUptoCard : Claim7 := { stood := { row := controlTextsUptoRow, standIns := [], harness := (true, "47bf4a7fe6062e09cc840642f666f4950bf45abcb44de0de44643b9d1afe0cfc"), looks := false }, kinds := [], alts := [], laidByText := true, laidKinds := [.data, .data, .data, .data, .pinned], laidTests := true, laidLooks := .later }
def ControlTextsUptoCardSaid : Prop := Claim7.holds Tryd.pinned (.plain (OpenSpec.upto controlTextsSpec)) controlTextsUptoCard

/-- THE SECOND FORM's CARD OF 'mandolinelaw09.ControlApplies'. -/
def controlAppliesUptoCard : Claim7 := { stood := { row := controlAppliesUptoRow, standIns := [], harness := (true, "47bf4a7fe6062e09cc840642f666f4950bf45abcb44de0de44643b9d1afe0cfc"), looks := false }, kinds := [], alts := [], laidByText := true, laidKinds := [.data, .data, .data, .data, .pinned], laidTests := true, laidLooks := .later }
def ControlAppliesUptoCardSaid : Prop := Claim7.holds Tryd.pinned (.plain (OpenSpec.upto controlAppliesSpec)) controlAppliesUptoCard

/-- THE SECOND FORM's CARD OF 'mandolinelaw09.ControlOf'. -/
def controlOfUptoCard : Claim7 := { stood := { row := controlOfUptoRow, standIns := [], harness := (true, "47bf4a7fe6062e09cc840642f666f4950bf45abcb44de0de44643b9d1afe0cfc"), looks := false }, kinds := [], alts := [], laidByText := true, laidKinds := [.data, .data, .data, .data, .pinned], laidTests := true, laidLooks := .later }
def ControlOfUptoCardSaid : Prop := Claim7.holds Tryd.pinned (.plain (OpenSpec.upto controlOfSpec)) controlOfUptoCard

/-- THE SECOND FORM's CARD OF 'mandolinelaw09.ControlAge'. -/
def controlAgeUptoCard : Claim7 := { stood := { row := controlAgeUptoRow, standIns := [], harness := (true, "47bf4a7fe6062e09cc840642f666f4950bf45abcb44de0de44643b9d1afe0cfc"), looks := false }, kinds := [], alts := [], laidByText := true, laidKinds := [.data, .data, .data, .data, .pinned], laidTests := true, laidLooks := .later }
def ControlAgeUptoCardSaid : Prop := Claim7.holds Tryd.pinned (.plain (OpenSpec.upto controlAgeSpec)) controlAgeUptoCard

/-- THE SECOND FORM's CARD OF 'mandolinelaw09.ControlBack'. -/
def controlBackUptoCard : Claim7 := { stood := { row := controlBackUptoRow, standIns := [], harness := (true, "47bf4a7fe6062e09cc840642f666f4950bf45abcb44de0de44643b9d1afe0cfc"), looks := false }, kinds := [], alts := [], laidByText := true, laidKinds := [.data, .data, .data, .data, .pinned], laidTests := true, laidLooks := .later }
def ControlBackUptoCardSaid : Prop := Claim7.holds Tryd.pinned (.plain (OpenSpec.upto controlBackSpec)) controlBackUptoCard

/-- THE SECOND FORM's CARD OF 'mandolinelaw09.ControlMix'. -/
def controlMixUptoCard : Claim7 := { stood := { row := controlMixUptoRow, standIns := [], harness := (true, "47bf4a7fe6062e09cc840642f666f4950bf45abcb44de0de44643b9d1afe0cfc"), looks := false }, kinds := [], alts := [], laidByText := true, laidKinds := [.data, .data, .data, .data, .pinned], laidTests := true, laidLooks := .later }
def ControlMixUptoCardSaid : Prop := Claim7.holds Tryd.pinned (.plain (OpenSpec.upto controlMixSpec)) controlMixUptoCard

/-- THE SECOND FORM's CARD OF 'mandolinelaw09.ControlSafe'. -/
def controlSafeUptoCard : Claim7 := { stood := { row := controlSafeUptoRow, standIns := [], harness := (true, "47bf4a7fe6062e09cc840642f666f4950bf45abcb44de0de44643b9d1afe0cfc"), looks := false }, kinds := [], alts := [], laidByText := true, laidKinds := [.data, .data, .data, .data, .pinned], laidTests := true, laidLooks := .later }
def ControlSafeUptoCardSaid : Prop := Claim7.holds Tryd.pinned (.plain (OpenSpec.upto controlSafeSpec)) controlSafeUptoCard
end Rows
end Go.Proofs.YtkkhiahdmlmecaaDoor
