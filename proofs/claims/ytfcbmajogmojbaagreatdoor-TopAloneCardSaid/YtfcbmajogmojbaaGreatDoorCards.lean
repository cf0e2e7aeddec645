/-
  DERIVED. GIVEN WITH THE SEED: THE CARDS: each row of YtfcbmajogmojbaaGreatDoorRows.lean that lists a variable, with what it lists TIED to the program's text (the seventh form; the later family's looks); each row that meets fmt, with fmt's text TOLD by the authors' own Lean function (tested against real Go, not proved from fmt's source: count such statements apart). THE CARD IS WHAT COUNTS. Prove the row's statement (the work); the ties are given (YtfcbmajogmojbaaGreatDoorTie.lean); close each card by the builder's one call (the guide's Derived/Test/ToyasCard.lean, 'card_holds'). Laid BY PROGRAM, IN A SANDBOX (cutbox-door.mjs). By AI agents, Wed Nov 11 2026. No macro, syntax, notation, axiom, sorry.
-/
import Derived.Test.YtfcbmajogmojbaaGreatDoorRows
import GoSem.ClaimSeven
namespace Go.Proofs.YtfcbmajogmojbaaGreatDoor
namespace Rows

/-- THE TIED CARD OF 'mandolinetop.TopSpared'. -/
def topSparedCard : Claim7 := { stood := { row := topSparedRow, standIns := [], harness := (true, "c5398a85b515980b4ec38bf7ddf660cf157b09a6226239ed80fc4cc6bd4b55e9"), looks := false }, kinds := [], alts := [], laidByText := true, laidKinds := [.data, .data, .data, .data, .pinned], laidTests := true, laidLooks := .later }
def TopSparedCardSaid : Prop := Claim7.holds Tryz.pinned (.plain (OpenSpec.ofChange topSparedSpec)) topSparedCard

/-- THE TIED CARD OF 'mandolinetop.TopAlone'. -/
def topAloneCard : Claim7 := { stood := { row := topAloneRow, standIns := [], harness := (true, "c5398a85b515980b4ec38bf7ddf660cf157b09a6226239ed80fc4cc6bd4b55e9"), looks := false }, kinds := [], alts := [], laidByText := true, laidKinds := [.data, .data, .data, .data, .pinned], laidTests := true, laidLooks := .later }
def TopAloneCardSaid : Prop := Claim7.holds Tryz.pinned (.plain (OpenSpec.ofChange topAloneSpec)) topAloneCard

/-- THE SECOND FORM's CARD OF 'mandolinetop.TopSpared'. -/
def topSparedUptoCard : Claim7 := { stood := { row := topSparedUptoRow, standIns := [], harness := (true, "c5398a85b515980b4ec38bf7ddf660cf157b09a6226239ed80fc4cc6bd4b55e9"), looks := false }, kinds := [], alts := [], laidByText := true, laidKinds := [.data, .data, .data, .data, .pinned], laidTests := true, laidLooks := .later }
def TopSparedUptoCardSaid : Prop := Claim7.holds Tryz.pinned (.plain (OpenSpec.upto topSparedSpec)) topSparedUptoCard

/-- THE SECOND FORM's CARD OF 'mandolinetop.TopAlone'. -/
def topAloneUptoCard : Claim7 := { stood := { row := topAloneUptoRow, standIns := [], harness := (true, "c5398a85b515980b4ec38bf7ddf660cf157b09a6226239ed80fc4cc6bd4b55e9"), looks := false }, kinds := [], alts := [], laidByText := true, laidKinds := [.data, .data, .data, .data, .pinned], laidTests := true, laidLooks := .later }
def TopAloneUptoCardSaid : Prop := Claim7.holds Tryz.pinned (.plain (OpenSpec.upto topAloneSpec)) topAloneUptoCard
end Rows
end Go.Proofs.YtfcbmajogmojbaaGreatDoor
