/-
  DERIVED. GIVEN WITH THE SEED: THE CARDS: each row of YtkmheoolekookaaDoorRows.lean that lists a variable, with what it lists TIED to the program's text (the seventh form; the later family's looks); each row that meets fmt, with fmt's text TOLD by the authors' own Lean function (tested against real Go, not proved from fmt's source: count such statements apart). THE CARD IS WHAT COUNTS. Prove the row's statement (the work); the ties are given (YtkmheoolekookaaDoorTie.lean); close each card by the builder's one call (the guide's Derived/Test/ToyasCard.lean, 'card_holds'). Laid BY PROGRAM, IN A SANDBOX (cutbox-door.mjs). By AI agents, Wed Nov 11 2026. No macro, syntax, notation, axiom, sorry.
-/
import Derived.Test.YtkmheoolekookaaDoorRows
import GoSem.ClaimSeven
namespace Go.Proofs.YtkmheoolekookaaDoor
namespace Rows

/-- THE TIED CARD OF 'mandolinelaw08.CondParses'. -/
def condParsesCard : Claim7 := { stood := { row := condParsesRow, standIns := [], harness := (true, "6ae73031020a7ecdf35eb6afe271d5ad3d756c5236a3ab680dcad54f85cf945c"), looks := false }, kinds := [], alts := [], laidByText := true, laidKinds := [.data, .pinned], laidTests := true, laidLooks := .later }
def CondParsesCardSaid : Prop := Claim7.holds Tryd.pinned (.plain (OpenSpec.ofChange condParsesSpec)) condParsesCard

/-- THE TIED CARD OF 'mandolinelaw08.CondOther'. -/
def condOtherCard : Claim7 := { stood := { row := condOtherRow, standIns := [], harness := (true, "6ae73031020a7ecdf35eb6afe271d5ad3d756c5236a3ab680dcad54f85cf945c"), looks := false }, kinds := [], alts := [], laidByText := true, laidKinds := [.data, .pinned], laidTests := true, laidLooks := .later }
def CondOtherCardSaid : Prop := Claim7.holds Tryd.pinned (.plain (OpenSpec.ofChange condOtherSpec)) condOtherCard

/-- THE TIED CARD OF 'mandolinelaw08.CondFields'. -/
def condFieldsCard : Claim7 := { stood := { row := condFieldsRow, standIns := [], harness := (true, "6ae73031020a7ecdf35eb6afe271d5ad3d756c5236a3ab680dcad54f85cf945c"), looks := false }, kinds := [], alts := [], laidByText := true, laidKinds := [.data, .pinned], laidTests := true, laidLooks := .later }
def CondFieldsCardSaid : Prop := Claim7.holds Tryd.pinned (.plain (OpenSpec.ofChange condFieldsSpec)) condFieldsCard

/-- THE SECOND FORM's CARD OF 'mandolinelaw08.CondParses'. -/
def condParsesUptoCard : Claim7 := { stood := { row := condParsesUptoRow, standIns := [], harness := (true, "6ae73031020a7ecdf35eb6afe271d5ad3d756c5236a3ab680dcad54f85cf945c"), looks := false }, kinds := [], alts := [], laidByText := true, laidKinds := [.data, .pinned], laidTests := true, laidLooks := .later }
def CondParsesUptoCardSaid : Prop := Claim7.holds Tryd.pinned (.plain (OpenSpec.upto condParsesSpec)) condParsesUptoCard

/-- THE SECOND FORM's CARD OF 'mandolinelaw08.CondOther'. -/
def condOtherUptoCard : Claim7 := { stood := { row := condOtherUptoRow, standIns := [], harness := (true, "6ae73031020a7ecdf35eb6afe271d5ad3d756c5236a3ab680dcad54f85cf945c"), looks := false }, kinds := [], alts := [], laidByText := true, laidKinds := [.data, .pinned], laidTests := true, laidLooks := .later }
def CondOtherUptoCardSaid : Prop := Claim7.holds Tryd.pinned (.plain (OpenSpec.upto condOtherSpec)) condOtherUptoCard

/-- THE SECOND FORM's CARD OF 'mandolinelaw08.CondFields'. -/
def condFieldsUptoCard : Claim7 := { stood := { row := condFieldsUptoRow, standIns := [], harness := (true, "6ae73031020a7ecdf35eb6afe271d5ad3d756c5236a3ab680dcad54f85cf945c"), looks := false }, kinds := [], alts := [], laidByText := true, laidKinds := [.data, .pinned], laidTests := true, laidLooks := .later }
def CondFieldsUptoCardSaid : Prop := Claim7.holds Tryd.pinned (.plain (OpenSpec.upto condFieldsSpec)) condFieldsUptoCard
end Rows
end Go.Proofs.YtkmheoolekookaaDoor
