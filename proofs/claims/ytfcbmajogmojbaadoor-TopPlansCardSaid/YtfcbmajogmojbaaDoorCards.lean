/-
  DERIVED. GIVEN WITH THE SEED: THE CARDS: each row of YtfcbmajogmojbaaDoorRows.lean that lists a variable, with what it lists TIED to the program's text (the seventh form; the later family's looks); each row that meets fmt, with fmt's text TOLD by the authors' own Lean function (tested against real Go, not proved from fmt's source: count such statements apart). THE CARD IS WHAT COUNTS. Prove the row's statement (the work); the ties are given (YtfcbmajogmojbaaDoorTie.lean); close each card by the builder's one call (the guide's Derived/Test/ToyasCard.lean, 'card_holds'). Laid BY PROGRAM, IN A SANDBOX (cutbox-door.mjs). By AI agents, Wed Nov 11 2026. No macro, syntax, notation, axiom, sorry.
-/
import Derived.Test.YtfcbmajogmojbaaDoorRows
import GoSem.ClaimSeven
namespace Go.Proofs.YtfcbmajogmojbaaDoor
namespace Rows

/-- THE TIED CARD OF 'mandolinetop.TopTells'. -/
def topTellsCard : Claim7 := { stood := { row := topTellsRow, standIns := [], harness := (true, "798f6ccd63a940724caf14c701245fe315ad429dcd14e08432c5c0cb5db61bf0"), looks := false }, kinds := [], alts := [], laidByText := true, laidKinds := [.data, .data, .data], laidTests := true, laidLooks := .later }
def TopTellsCardSaid : Prop := Claim7.holds Tryd.pinned (.plain (OpenSpec.ofChange topTellsSpec)) topTellsCard

/-- THE TIED CARD OF 'mandolinetop.TopPlans'. -/
def topPlansCard : Claim7 := { stood := { row := topPlansRow, standIns := [], harness := (true, "798f6ccd63a940724caf14c701245fe315ad429dcd14e08432c5c0cb5db61bf0"), looks := false }, kinds := [], alts := [], laidByText := true, laidKinds := [.data, .data, .data], laidTests := true, laidLooks := .later }
def TopPlansCardSaid : Prop := Claim7.holds Tryd.pinned (.plain (OpenSpec.ofChange topPlansSpec)) topPlansCard

/-- THE SECOND FORM's CARD OF 'mandolinetop.TopTells'. -/
def topTellsUptoCard : Claim7 := { stood := { row := topTellsUptoRow, standIns := [], harness := (true, "798f6ccd63a940724caf14c701245fe315ad429dcd14e08432c5c0cb5db61bf0"), looks := false }, kinds := [], alts := [], laidByText := true, laidKinds := [.data, .data, .data], laidTests := true, laidLooks := .later }
def TopTellsUptoCardSaid : Prop := Claim7.holds Tryd.pinned (.plain (OpenSpec.upto topTellsSpec)) topTellsUptoCard

/-- THE SECOND FORM's CARD OF 'mandolinetop.TopPlans'. -/
def topPlansUptoCard : Claim7 := { stood := { row := topPlansUptoRow, standIns := [], harness := (true, "798f6ccd63a940724caf14c701245fe315ad429dcd14e08432c5c0cb5db61bf0"), looks := false }, kinds := [], alts := [], laidByText := true, laidKinds := [.data, .data, .data], laidTests := true, laidLooks := .later }
def TopPlansUptoCardSaid : Prop := Claim7.holds Tryd.pinned (.plain (OpenSpec.upto topPlansSpec)) topPlansUptoCard
end Rows
end Go.Proofs.YtfcbmajogmojbaaDoor
