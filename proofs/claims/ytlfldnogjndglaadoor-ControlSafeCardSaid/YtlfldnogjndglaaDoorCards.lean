/-
  DERIVED. GIVEN WITH THE SEED: THE CARDS: each row of YtlfldnogjndglaaDoorRows.lean that lists a variable, with what it lists TIED to the program's text (the seventh form; the later family's looks); each row that meets fmt, with fmt's text TOLD by the authors' own Lean function (tested against real Go, not proved from fmt's source: count such statements apart). THE CARD IS WHAT COUNTS. Prove the row's statement (the work); the ties are given (YtlfldnogjndglaaDoorTie.lean); close each card by the builder's one call (the guide's Derived/Test/ToyasCard.lean, 'card_holds'). Laid BY PROGRAM, IN A SANDBOX (cutbox-door.mjs). By AI agents, Wed Nov 11 2026. No macro, syntax, notation, axiom, sorry.
-/
import Derived.Test.YtlfldnogjndglaaDoorRows
import GoSem.ClaimSeven
namespace Go.Proofs.YtlfldnogjndglaaDoor
namespace Rows

/-- THE TIED CARD OF 'mandolinelaw09.ControlSafe'. -/
def controlSafeCard : Claim7 := { stood := { row := controlSafeRow, standIns := [], harness := (true, "40bc814dfd5228b1e9f67b15bc9ab1454090b602ecfc94f4eea917cb58f74493"), looks := false }, kinds := [], alts := [], laidByText := true, laidKinds := [.data, .data, .data, .data, .pinned], laidTests := true, laidLooks := .later }
def ControlSafeCardSaid : Prop := Claim7.holds Tryd.pinned (.plain (OpenSpec.ofChange controlSafeSpec)) controlSafeCard

/-- THE SECOND FORM's CARD OF 'mandolinelaw09.ControlSafe'. -/
def controlSafeUptoCard : Claim7 := { stood := { row := controlSafeUptoRow, standIns := [], harness := (true, "40bc814dfd5228b1e9f67b15bc9ab1454090b602ecfc94f4eea917cb58f74493"), looks := false }, kinds := [], alts := [], laidByText := true, laidKinds := [.data, .data, .data, .data, .pinned], laidTests := true, laidLooks := .later }
def ControlSafeUptoCardSaid : Prop := Claim7.holds Tryd.pinned (.plain (OpenSpec.upto controlSafeSpec)) controlSafeUptoCard
end Rows
end Go.Proofs.YtlfldnogjndglaaDoor
