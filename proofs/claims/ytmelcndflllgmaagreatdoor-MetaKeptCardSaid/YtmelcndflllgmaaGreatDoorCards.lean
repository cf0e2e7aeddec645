/-
  DERIVED. GIVEN WITH THE SEED: THE CARDS: each row of YtmelcndflllgmaaGreatDoorRows.lean that lists a variable, with what it lists TIED to the program's text (the seventh form; the later family's looks); each row that meets fmt, with fmt's text TOLD by the authors' own Lean function (tested against real Go, not proved from fmt's source: count such statements apart). THE CARD IS WHAT COUNTS. Prove the row's statement (the work); the ties are given (YtmelcndflllgmaaGreatDoorTie.lean); close each card by the builder's one call (the guide's Derived/Test/ToyasCard.lean, 'card_holds'). Laid BY PROGRAM, IN A SANDBOX (cutbox-door.mjs). By AI agents, Wed Nov 11 2026. No macro, syntax, notation, axiom, sorry.
-/
import Derived.Test.YtmelcndflllgmaaGreatDoorRows
import GoSem.ClaimSeven
namespace Go.Proofs.YtmelcndflllgmaaGreatDoor
namespace Rows

/-- THE TIED CARD OF 'mandolinelaw14.MetaFrom'. -/
def metaFromCard : Claim7 := { stood := { row := metaFromRow, standIns := [], harness := (true, "7340c533c8eb8e8a62430c914fc76980a60cf950c74b93a996abb7963db00861"), looks := false }, kinds := [], alts := [], laidByText := true, laidKinds := [.data, .data, .data, .data, .pinned], laidTests := true, laidLooks := .later }
def MetaFromCardSaid : Prop := Claim7.holds Tryz.pinned (.plain (OpenSpec.ofChange metaFromSpec)) metaFromCard

/-- THE TIED CARD OF 'mandolinelaw14.MetaBack'. -/
def metaBackCard : Claim7 := { stood := { row := metaBackRow, standIns := [], harness := (true, "7340c533c8eb8e8a62430c914fc76980a60cf950c74b93a996abb7963db00861"), looks := false }, kinds := [], alts := [], laidByText := true, laidKinds := [.data, .data, .data, .data, .pinned], laidTests := true, laidLooks := .later }
def MetaBackCardSaid : Prop := Claim7.holds Tryz.pinned (.plain (OpenSpec.ofChange metaBackSpec)) metaBackCard

/-- THE TIED CARD OF 'mandolinelaw14.MetaKept'. -/
def metaKeptCard : Claim7 := { stood := { row := metaKeptRow, standIns := [], harness := (true, "7340c533c8eb8e8a62430c914fc76980a60cf950c74b93a996abb7963db00861"), looks := false }, kinds := [], alts := [], laidByText := true, laidKinds := [.data, .data, .data, .data, .pinned], laidTests := true, laidLooks := .later }
def MetaKeptCardSaid : Prop := Claim7.holds Tryz.pinned (.plain (OpenSpec.ofChange metaKeptSpec)) metaKeptCard

/-- THE SECOND FORM's CARD OF 'mandolinelaw14.MetaFrom'. -/
def metaFromUptoCard : Claim7 := { stood := { row := metaFromUptoRow, standIns := [], harness := (true, "7340c533c8eb8e8a62430c914fc76980a60cf950c74b93a996abb7963db00861"), looks := false }, kinds := [], alts := [], laidByText := true, laidKinds := [.data, .data, .data, .data, .pinned], laidTests := true, laidLooks := .later }
def MetaFromUptoCardSaid : Prop := Claim7.holds Tryz.pinned (.plain (OpenSpec.upto metaFromSpec)) metaFromUptoCard

/-- THE SECOND FORM's CARD OF 'mandolinelaw14.MetaBack'. -/
def metaBackUptoCard : Claim7 := { stood := { row := metaBackUptoRow, standIns := [], harness := (true, "7340c533c8eb8e8a62430c914fc76980a60cf950c74b93a996abb7963db00861"), looks := false }, kinds := [], alts := [], laidByText := true, laidKinds := [.data, .data, .data, .data, .pinned], laidTests := true, laidLooks := .later }
def MetaBackUptoCardSaid : Prop := Claim7.holds Tryz.pinned (.plain (OpenSpec.upto metaBackSpec)) metaBackUptoCard

/-- THE SECOND FORM's CARD OF 'mandolinelaw14.MetaKept'. -/
def metaKeptUptoCard : Claim7 := { stood := { row := metaKeptUptoRow, standIns := [], harness := (true, "7340c533c8eb8e8a62430c914fc76980a60cf950c74b93a996abb7963db00861"), looks := false }, kinds := [], alts := [], laidByText := true, laidKinds := [.data, .data, .data, .data, .pinned], laidTests := true, laidLooks := .later }
def MetaKeptUptoCardSaid : Prop := Claim7.holds Tryz.pinned (.plain (OpenSpec.upto metaKeptSpec)) metaKeptUptoCard
end Rows
end Go.Proofs.YtmelcndflllgmaaGreatDoor
