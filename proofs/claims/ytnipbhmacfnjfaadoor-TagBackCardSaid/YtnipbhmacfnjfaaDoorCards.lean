/-
  DERIVED. GIVEN WITH THE SEED: THE CARDS: each row of YtnipbhmacfnjfaaDoorRows.lean that lists a variable, with what it lists TIED to the program's text (the seventh form; the later family's looks); each row that meets fmt, with fmt's text TOLD by the authors' own Lean function (tested against real Go, not proved from fmt's source: count such statements apart). THE CARD IS WHAT COUNTS. Prove the row's statement (the work); the ties are given (YtnipbhmacfnjfaaDoorTie.lean); close each card by the builder's one call (the guide's Derived/Test/ToyasCard.lean, 'card_holds'). Laid BY PROGRAM, IN A SANDBOX (cutbox-door.mjs). By AI agents, Wed Nov 11 2026. No macro, syntax, notation, axiom, sorry.
-/
import Derived.Test.YtnipbhmacfnjfaaDoorRows
import GoSem.ClaimSeven
namespace Go.Proofs.YtnipbhmacfnjfaaDoor
namespace Rows

/-- THE TIED CARD OF 'mandolinelaw05.TagRight'. -/
def tagRightCard : Claim7 := { stood := { row := tagRightRow, standIns := [], harness := (true, "c41245ace16549ad04269c2019393a4276d1d6229939c27fe57ac0f1b86a51db"), looks := false }, kinds := [], alts := [], laidByText := true, laidKinds := [.data, .pinned], laidTests := true, laidLooks := .later }
def TagRightCardSaid : Prop := Claim7.holds Tryd.pinned (.plain (OpenSpec.ofChange tagRightSpec)) tagRightCard

/-- THE TIED CARD OF 'mandolinelaw05.TagTexts'. -/
def tagTextsCard : Claim7 := { stood := { row := tagTextsRow, standIns := [], harness := (true, "c41245ace16549ad04269c2019393a4276d1d6229939c27fe57ac0f1b86a51db"), looks := false }, kinds := [], alts := [], laidByText := true, laidKinds := [.data, .pinned], laidTests := true, laidLooks := .later }
def TagTextsCardSaid : Prop := Claim7.holds Tryd.pinned (.plain (OpenSpec.ofChange tagTextsSpec)) tagTextsCard

/-- THE TIED CARD OF 'mandolinelaw05.TagLists'. -/
def tagListsCard : Claim7 := { stood := { row := tagListsRow, standIns := [], harness := (true, "c41245ace16549ad04269c2019393a4276d1d6229939c27fe57ac0f1b86a51db"), looks := false }, kinds := [], alts := [], laidByText := true, laidKinds := [.data, .pinned], laidTests := true, laidLooks := .later }
def TagListsCardSaid : Prop := Claim7.holds Tryd.pinned (.plain (OpenSpec.ofChange tagListsSpec)) tagListsCard

/-- THE TIED CARD OF 'mandolinelaw05.TagBack'. -/
def tagBackCard : Claim7 := { stood := { row := tagBackRow, standIns := [], harness := (true, "c41245ace16549ad04269c2019393a4276d1d6229939c27fe57ac0f1b86a51db"), looks := false }, kinds := [], alts := [], laidByText := true, laidKinds := [.data, .pinned], laidTests := true, laidLooks := .later }
def TagBackCardSaid : Prop := Claim7.holds Tryd.pinned (.plain (OpenSpec.ofChange tagBackSpec)) tagBackCard

/-- THE TIED CARD OF 'mandolinelaw05.TagSame'. -/
def tagSameCard : Claim7 := { stood := { row := tagSameRow, standIns := [], harness := (true, "c41245ace16549ad04269c2019393a4276d1d6229939c27fe57ac0f1b86a51db"), looks := false }, kinds := [], alts := [], laidByText := true, laidKinds := [.data, .pinned], laidTests := true, laidLooks := .later }
def TagSameCardSaid : Prop := Claim7.holds Tryd.pinned (.plain (OpenSpec.ofChange tagSameSpec)) tagSameCard

/-- THE TIED CARD OF 'mandolinelaw05.TagIn'. -/
def tagInCard : Claim7 := { stood := { row := tagInRow, standIns := [], harness := (true, "c41245ace16549ad04269c2019393a4276d1d6229939c27fe57ac0f1b86a51db"), looks := false }, kinds := [], alts := [], laidByText := true, laidKinds := [.data, .pinned], laidTests := true, laidLooks := .later }
def TagInCardSaid : Prop := Claim7.holds Tryd.pinned (.plain (OpenSpec.ofChange tagInSpec)) tagInCard

/-- THE TIED CARD OF 'mandolinelaw05.TagBlanks'. -/
def tagBlanksCard : Claim7 := { stood := { row := tagBlanksRow, standIns := [], harness := (true, "c41245ace16549ad04269c2019393a4276d1d6229939c27fe57ac0f1b86a51db"), looks := false }, kinds := [], alts := [], laidByText := true, laidKinds := [.data, .pinned], laidTests := true, laidLooks := .later }
def TagBlanksCardSaid : Prop := Claim7.holds Tryd.pinned (.plain (OpenSpec.ofChange tagBlanksSpec)) tagBlanksCard

/-- THE TIED CARD OF 'mandolinelaw08.CondParses'. -/
def condParsesCard : Claim7 := { stood := { row := condParsesRow, standIns := [], harness := (true, "c41245ace16549ad04269c2019393a4276d1d6229939c27fe57ac0f1b86a51db"), looks := false }, kinds := [], alts := [], laidByText := true, laidKinds := [.data, .pinned], laidTests := true, laidLooks := .later }
def CondParsesCardSaid : Prop := Claim7.holds Tryd.pinned (.plain (OpenSpec.ofChange condParsesSpec)) condParsesCard

/-- THE TIED CARD OF 'mandolinelaw08.CondOther'. -/
def condOtherCard : Claim7 := { stood := { row := condOtherRow, standIns := [], harness := (true, "c41245ace16549ad04269c2019393a4276d1d6229939c27fe57ac0f1b86a51db"), looks := false }, kinds := [], alts := [], laidByText := true, laidKinds := [.data, .pinned], laidTests := true, laidLooks := .later }
def CondOtherCardSaid : Prop := Claim7.holds Tryd.pinned (.plain (OpenSpec.ofChange condOtherSpec)) condOtherCard

/-- THE TIED CARD OF 'mandolinelaw08.CondFields'. -/
def condFieldsCard : Claim7 := { stood := { row := condFieldsRow, standIns := [], harness := (true, "c41245ace16549ad04269c2019393a4276d1d6229939c27fe57ac0f1b86a51db"), looks := false }, kinds := [], alts := [], laidByText := true, laidKinds := [.data, .pinned], laidTests := true, laidLooks := .later }
def CondFieldsCardSaid : Prop := Claim7.holds Tryd.pinned (.plain (OpenSpec.ofChange condFieldsSpec)) condFieldsCard

/-- THE SECOND FORM's CARD OF 'mandolinelaw05.TagRight'. -/
def tagRightUptoCard : Claim7 := { stood := { row := tagRightUptoRow, standIns := [], harness := (true, "c41245ace16549ad04269c2019393a4276d1d6229939c27fe57ac0f1b86a51db"), looks := false }, kinds := [], alts := [], laidByText := true, laidKinds := [.data, .pinned], laidTests := true, laidLooks := .later }
def TagRightUptoCardSaid : Prop := Claim7.holds Tryd.pinned (.plain (OpenSpec.upto tagRightSpec)) tagRightUptoCard

/-- THE SECOND FORM's CARD OF 'mandolinelaw05.TagTexts'. -/
def tagTextsUptoCard : Claim7 := { stood := { row := tagTextsUptoRow, standIns := [], harness := (true, "c41245ace16549ad04269c2019393a4276d1d6229939c27fe57ac0f1b86a51db"), looks := false }, kinds := [], alts := [], laidByText := true, laidKinds := [.data, .pinned], laidTests := true, laidLooks := .later }
def TagTextsUptoCardSaid : Prop := Claim7.holds Tryd.pinned (.plain (OpenSpec.upto tagTextsSpec)) tagTextsUptoCard

/-- THE SECOND FORM's CARD OF 'mandolinelaw05.TagLists'. -/
def tagListsUptoCard : Claim7 := { stood := { row := tagListsUptoRow, standIns := [], harness := (true, "c41245ace16549ad04269c2019393a4276d1d6229939c27fe57ac0f1b86a51db"), looks := false }, kinds := [], alts := [], laidByText := true, laidKinds := [.data, .pinned], laidTests := true, laidLooks := .later }
def TagListsUptoCardSaid : Prop := Claim7.holds Tryd.pinned (.plain (OpenSpec.upto tagListsSpec)) tagListsUptoCard

/-- THE SECOND FORM's CARD OF 'mandolinelaw05.TagBack'. -/
def tagBackUptoCard : Claim7 := { stood := { row := tagBackUptoRow, standIns := [], harness := (true, "c41245ace16549ad04269c2019393a4276d1d6229939c27fe57ac0f1b86a51db"), looks := false }, kinds := [], alts := [], laidByText := true, laidKinds := [.data, .pinned], laidTests := true, laidLooks := .later }
def TagBackUptoCardSaid : Prop := Claim7.holds Tryd.pinned (.plain (OpenSpec.upto tagBackSpec)) tagBackUptoCard

/-- THE SECOND FORM's CARD OF 'mandolinelaw05.TagSame'. -/
def tagSameUptoCard : Claim7 := { stood := { row := tagSameUptoRow, standIns := [], harness := (true, "c41245ace16549ad04269c2019393a4276d1d6229939c27fe57ac0f1b86a51db"), looks := false }, kinds := [], alts := [], laidByText := true, laidKinds := [.data, .pinned], laidTests := true, laidLooks := .later }
def TagSameUptoCardSaid : Prop := Claim7.holds Tryd.pinned (.plain (OpenSpec.upto tagSameSpec)) tagSameUptoCard

/-- THE SECOND FORM's CARD OF 'mandolinelaw05.TagIn'. -/
def tagInUptoCard : Claim7 := { stood := { row := tagInUptoRow, standIns := [], harness := (true, "c41245ace16549ad04269c2019393a4276d1d6229939c27fe57ac0f1b86a51db"), looks := false }, kinds := [], alts := [], laidByText := true, laidKinds := [.data, .pinned], laidTests := true, laidLooks := .later }
def TagInUptoCardSaid : Prop := Claim7.holds Tryd.pinned (.plain (OpenSpec.upto tagInSpec)) tagInUptoCard

/-- THE SECOND FORM's CARD OF 'mandolinelaw05.TagBlanks'. -/
def tagBlanksUptoCard : Claim7 := { stood := { row := tagBlanksUptoRow, standIns := [], harness := (true, "c41245ace16549ad04269c2019393a4276d1d6229939c27fe57ac0f1b86a51db"), looks := false }, kinds := [], alts := [], laidByText := true, laidKinds := [.data, .pinned], laidTests := true, laidLooks := .later }
def TagBlanksUptoCardSaid : Prop := Claim7.holds Tryd.pinned (.plain (OpenSpec.upto tagBlanksSpec)) tagBlanksUptoCard

/-- THE SECOND FORM's CARD OF 'mandolinelaw08.CondParses'. -/
def condParsesUptoCard : Claim7 := { stood := { row := condParsesUptoRow, standIns := [], harness := (true, "c41245ace16549ad04269c2019393a4276d1d6229939c27fe57ac0f1b86a51db"), looks := false }, kinds := [], alts := [], laidByText := true, laidKinds := [.data, .pinned], laidTests := true, laidLooks := .later }
def CondParsesUptoCardSaid : Prop := Claim7.holds Tryd.pinned (.plain (OpenSpec.upto condParsesSpec)) condParsesUptoCard

/-- THE SECOND FORM's CARD OF 'mandolinelaw08.CondOther'. -/
def condOtherUptoCard : Claim7 := { stood := { row := condOtherUptoRow, standIns := [], harness := (true, "c41245ace16549ad04269c2019393a4276d1d6229939c27fe57ac0f1b86a51db"), looks := false }, kinds := [], alts := [], laidByText := true, laidKinds := [.data, .pinned], laidTests := true, laidLooks := .later }
def CondOtherUptoCardSaid : Prop := Claim7.holds Tryd.pinned (.plain (OpenSpec.upto condOtherSpec)) condOtherUptoCard

/-- THE SECOND FORM's CARD OF 'mandolinelaw08.CondFields'. -/
def condFieldsUptoCard : Claim7 := { stood := { row := condFieldsUptoRow, standIns := [], harness := (true, "c41245ace16549ad04269c2019393a4276d1d6229939c27fe57ac0f1b86a51db"), looks := false }, kinds := [], alts := [], laidByText := true, laidKinds := [.data, .pinned], laidTests := true, laidLooks := .later }
def CondFieldsUptoCardSaid : Prop := Claim7.holds Tryd.pinned (.plain (OpenSpec.upto condFieldsSpec)) condFieldsUptoCard
end Rows
end Go.Proofs.YtnipbhmacfnjfaaDoor
