/-
  DERIVED. GIVEN WITH THE SEED: THE CARDS: each row of YtmelcndflllgmaaDoorRows.lean that lists a variable, with what it lists TIED to the program's text (the seventh form; the later family's looks); each row that meets fmt, with fmt's text TOLD by the authors' own Lean function (tested against real Go, not proved from fmt's source: count such statements apart). THE CARD IS WHAT COUNTS. Prove the row's statement (the work); the ties are given (YtmelcndflllgmaaDoorTie.lean); close each card by the builder's one call (the guide's Derived/Test/ToyasCard.lean, 'card_holds'). Laid BY PROGRAM, IN A SANDBOX (cutbox-door.mjs). By AI agents, Wed Nov 11 2026. No macro, syntax, notation, axiom, sorry.
-/
import Derived.Test.YtmelcndflllgmaaDoorRows
import GoSem.ClaimSeven
namespace Go.Proofs.YtmelcndflllgmaaDoor
namespace Rows

/-- THE TIED CARD OF 'mandolinelaw14.MetaRight'. -/
def metaRightCard : Claim7 := { stood := { row := metaRightRow, standIns := [], harness := (true, "b4a9c889a27dbc13550ee604671a7a5c034765fb2c47d86a7d1c64ca3948f54b"), looks := false }, kinds := [], alts := [], laidByText := true, laidKinds := [.data, .data, .data], laidTests := true, laidLooks := .later }
def MetaRightCardSaid : Prop := Claim7.holds Tryd.pinned (.plain (OpenSpec.ofChange metaRightSpec)) metaRightCard

/-- THE TIED CARD OF 'mandolinelaw14.MetaFields'. -/
def metaFieldsCard : Claim7 := { stood := { row := metaFieldsRow, standIns := [], harness := (true, "b4a9c889a27dbc13550ee604671a7a5c034765fb2c47d86a7d1c64ca3948f54b"), looks := false }, kinds := [], alts := [], laidByText := true, laidKinds := [.data, .data, .data], laidTests := true, laidLooks := .later }
def MetaFieldsCardSaid : Prop := Claim7.holds Tryd.pinned (.plain (OpenSpec.ofChange metaFieldsSpec)) metaFieldsCard

/-- THE TIED CARD OF 'mandolinelaw14.MetaChain'. -/
def metaChainCard : Claim7 := { stood := { row := metaChainRow, standIns := [], harness := (true, "b4a9c889a27dbc13550ee604671a7a5c034765fb2c47d86a7d1c64ca3948f54b"), looks := false }, kinds := [], alts := [], laidByText := true, laidKinds := [.data, .data, .data], laidTests := true, laidLooks := .later }
def MetaChainCardSaid : Prop := Claim7.holds Tryd.pinned (.plain (OpenSpec.ofChange metaChainSpec)) metaChainCard

/-- THE TIED CARD OF 'mandolinelaw14.MetaFollows'. -/
def metaFollowsCard : Claim7 := { stood := { row := metaFollowsRow, standIns := [], harness := (true, "b4a9c889a27dbc13550ee604671a7a5c034765fb2c47d86a7d1c64ca3948f54b"), looks := false }, kinds := [], alts := [], laidByText := true, laidKinds := [.data, .data, .data], laidTests := true, laidLooks := .later }
def MetaFollowsCardSaid : Prop := Claim7.holds Tryd.pinned (.plain (OpenSpec.ofChange metaFollowsSpec)) metaFollowsCard

/-- THE SECOND FORM's CARD OF 'mandolinelaw14.MetaRight'. -/
def metaRightUptoCard : Claim7 := { stood := { row := metaRightUptoRow, standIns := [], harness := (true, "b4a9c889a27dbc13550ee604671a7a5c034765fb2c47d86a7d1c64ca3948f54b"), looks := false }, kinds := [], alts := [], laidByText := true, laidKinds := [.data, .data, .data], laidTests := true, laidLooks := .later }
def MetaRightUptoCardSaid : Prop := Claim7.holds Tryd.pinned (.plain (OpenSpec.upto metaRightSpec)) metaRightUptoCard

/-- THE SECOND FORM's CARD OF 'mandolinelaw14.MetaFields'. -/
def metaFieldsUptoCard : Claim7 := { stood := { row := metaFieldsUptoRow, standIns := [], harness := (true, "b4a9c889a27dbc13550ee604671a7a5c034765fb2c47d86a7d1c64ca3948f54b"), looks := false }, kinds := [], alts := [], laidByText := true, laidKinds := [.data, .data, .data], laidTests := true, laidLooks := .later }
def MetaFieldsUptoCardSaid : Prop := Claim7.holds Tryd.pinned (.plain (OpenSpec.upto metaFieldsSpec)) metaFieldsUptoCard

/-- THE SECOND FORM's CARD OF 'mandolinelaw14.MetaChain'. -/
def metaChainUptoCard : Claim7 := { stood := { row := metaChainUptoRow, standIns := [], harness := (true, "b4a9c889a27dbc13550ee604671a7a5c034765fb2c47d86a7d1c64ca3948f54b"), looks := false }, kinds := [], alts := [], laidByText := true, laidKinds := [.data, .data, .data], laidTests := true, laidLooks := .later }
def MetaChainUptoCardSaid : Prop := Claim7.holds Tryd.pinned (.plain (OpenSpec.upto metaChainSpec)) metaChainUptoCard

/-- THE SECOND FORM's CARD OF 'mandolinelaw14.MetaFollows'. -/
def metaFollowsUptoCard : Claim7 := { stood := { row := metaFollowsUptoRow, standIns := [], harness := (true, "b4a9c889a27dbc13550ee604671a7a5c034765fb2c47d86a7d1c64ca3948f54b"), looks := false }, kinds := [], alts := [], laidByText := true, laidKinds := [.data, .data, .data], laidTests := true, laidLooks := .later }
def MetaFollowsUptoCardSaid : Prop := Claim7.holds Tryd.pinned (.plain (OpenSpec.upto metaFollowsSpec)) metaFollowsUptoCard
end Rows
end Go.Proofs.YtmelcndflllgmaaDoor
