/-
  DERIVED. GIVEN WITH THE SEED: THE CARDS: each row of YtiigkacmahecaaaDoorRows.lean that lists a variable, with what it lists TIED to the program's text (the seventh form; the later family's looks); each row that meets fmt, with fmt's text TOLD by the authors' own Lean function (tested against real Go, not proved from fmt's source: count such statements apart). THE CARD IS WHAT COUNTS. Prove the row's statement (the work); the ties are given (YtiigkacmahecaaaDoorTie.lean); close each card by the builder's one call (the guide's Derived/Test/ToyasCard.lean, 'card_holds'). Laid BY PROGRAM, IN A SANDBOX (cutbox-door.mjs). By AI agents, Wed Nov 11 2026. No macro, syntax, notation, axiom, sorry.
-/
import Derived.Test.YtiigkacmahecaaaDoorRows
import GoSem.ClaimSeven
namespace Go.Proofs.YtiigkacmahecaaaDoor
namespace Rows

/-- THE TIED CARD OF 'mandolinelaw13.FrameStrange'. -/
def frameStrangeCard : Claim7 := { stood := { row := frameStrangeRow, standIns := [], harness := (true, "87d5f9219f07a079969b4c10c39daa5a43c4b1aaca00ea7f38b869a1054ed3de"), looks := false }, kinds := [], alts := [], laidByText := true, laidKinds := [.data, .pinned], laidTests := true, laidLooks := .later }
def FrameStrangeCardSaid : Prop := Claim7.holds Tryd.pinned (.plain (OpenSpec.ofChange frameStrangeSpec)) frameStrangeCard

/-- THE TIED CARD OF 'mandolinelaw13.FrameReads'. -/
def frameReadsCard : Claim7 := { stood := { row := frameReadsRow, standIns := [], harness := (true, "87d5f9219f07a079969b4c10c39daa5a43c4b1aaca00ea7f38b869a1054ed3de"), looks := false }, kinds := [], alts := [], laidByText := true, laidKinds := [.data, .pinned], laidTests := true, laidLooks := .later }
def FrameReadsCardSaid : Prop := Claim7.holds Tryd.pinned (.plain (OpenSpec.ofChange frameReadsSpec)) frameReadsCard

/-- THE TIED CARD OF 'mandolinelaw13.FrameFixed'. -/
def frameFixedCard : Claim7 := { stood := { row := frameFixedRow, standIns := [], harness := (true, "87d5f9219f07a079969b4c10c39daa5a43c4b1aaca00ea7f38b869a1054ed3de"), looks := false }, kinds := [], alts := [], laidByText := true, laidKinds := [.data, .pinned], laidTests := true, laidLooks := .later }
def FrameFixedCardSaid : Prop := Claim7.holds Tryd.pinned (.plain (OpenSpec.ofChange frameFixedSpec)) frameFixedCard

/-- THE TIED CARD OF 'mandolinelaw13.FrameShort'. -/
def frameShortCard : Claim7 := { stood := { row := frameShortRow, standIns := [], harness := (true, "87d5f9219f07a079969b4c10c39daa5a43c4b1aaca00ea7f38b869a1054ed3de"), looks := false }, kinds := [], alts := [], laidByText := true, laidKinds := [.data, .pinned], laidTests := true, laidLooks := .later }
def FrameShortCardSaid : Prop := Claim7.holds Tryd.pinned (.plain (OpenSpec.ofChange frameShortSpec)) frameShortCard

/-- THE TIED CARD OF 'mandolinelaw13.FrameDone'. -/
def frameDoneCard : Claim7 := { stood := { row := frameDoneRow, standIns := [], harness := (true, "87d5f9219f07a079969b4c10c39daa5a43c4b1aaca00ea7f38b869a1054ed3de"), looks := false }, kinds := [], alts := [], laidByText := true, laidKinds := [.data, .pinned], laidTests := true, laidLooks := .later }
def FrameDoneCardSaid : Prop := Claim7.holds Tryd.pinned (.plain (OpenSpec.ofChange frameDoneSpec)) frameDoneCard

/-- THE TIED CARD OF 'mandolinelaw13.FrameDealt'. -/
def frameDealtCard : Claim7 := { stood := { row := frameDealtRow, standIns := [], harness := (true, "87d5f9219f07a079969b4c10c39daa5a43c4b1aaca00ea7f38b869a1054ed3de"), looks := false }, kinds := [], alts := [], laidByText := true, laidKinds := [.data, .pinned], laidTests := true, laidLooks := .later }
def FrameDealtCardSaid : Prop := Claim7.holds Tryd.pinned (.plain (OpenSpec.ofChange frameDealtSpec)) frameDealtCard

/-- THE TIED CARD OF 'mandolinelaw13.FrameChunks'. -/
def frameChunksCard : Claim7 := { stood := { row := frameChunksRow, standIns := [], harness := (true, "87d5f9219f07a079969b4c10c39daa5a43c4b1aaca00ea7f38b869a1054ed3de"), looks := false }, kinds := [], alts := [], laidByText := true, laidKinds := [.data, .data, .data, .data, .pinned], laidTests := true, laidLooks := .later }
def FrameChunksCardSaid : Prop := Claim7.holds Tryd.pinned (.plain (OpenSpec.ofChange frameChunksSpec)) frameChunksCard

/-- THE SECOND FORM's CARD OF 'mandolinelaw13.FrameStrange'. -/
def frameStrangeUptoCard : Claim7 := { stood := { row := frameStrangeUptoRow, standIns := [], harness := (true, "87d5f9219f07a079969b4c10c39daa5a43c4b1aaca00ea7f38b869a1054ed3de"), looks := false }, kinds := [], alts := [], laidByText := true, laidKinds := [.data, .pinned], laidTests := true, laidLooks := .later }
def FrameStrangeUptoCardSaid : Prop := Claim7.holds Tryd.pinned (.plain (OpenSpec.upto frameStrangeSpec)) frameStrangeUptoCard

/-- THE SECOND FORM's CARD OF 'mandolinelaw13.FrameReads'. -/
def frameReadsUptoCard : Claim7 := { stood := { row := frameReadsUptoRow, standIns := [], harness := (true, "87d5f9219f07a079969b4c10c39daa5a43c4b1aaca00ea7f38b869a1054ed3de"), looks := false }, kinds := [], alts := [], laidByText := true, laidKinds := [.data, .pinned], laidTests := true, laidLooks := .later }
def FrameReadsUptoCardSaid : Prop := Claim7.holds Tryd.pinned (.plain (OpenSpec.upto frameReadsSpec)) frameReadsUptoCard

/-- THE SECOND FORM's CARD OF 'mandolinelaw13.FrameFixed'. -/
def frameFixedUptoCard : Claim7 := { stood := { row := frameFixedUptoRow, standIns := [], harness := (true, "87d5f9219f07a079969b4c10c39daa5a43c4b1aaca00ea7f38b869a1054ed3de"), looks := false }, kinds := [], alts := [], laidByText := true, laidKinds := [.data, .pinned], laidTests := true, laidLooks := .later }
def FrameFixedUptoCardSaid : Prop := Claim7.holds Tryd.pinned (.plain (OpenSpec.upto frameFixedSpec)) frameFixedUptoCard

/-- THE SECOND FORM's CARD OF 'mandolinelaw13.FrameShort'. -/
def frameShortUptoCard : Claim7 := { stood := { row := frameShortUptoRow, standIns := [], harness := (true, "87d5f9219f07a079969b4c10c39daa5a43c4b1aaca00ea7f38b869a1054ed3de"), looks := false }, kinds := [], alts := [], laidByText := true, laidKinds := [.data, .pinned], laidTests := true, laidLooks := .later }
def FrameShortUptoCardSaid : Prop := Claim7.holds Tryd.pinned (.plain (OpenSpec.upto frameShortSpec)) frameShortUptoCard

/-- THE SECOND FORM's CARD OF 'mandolinelaw13.FrameDone'. -/
def frameDoneUptoCard : Claim7 := { stood := { row := frameDoneUptoRow, standIns := [], harness := (true, "87d5f9219f07a079969b4c10c39daa5a43c4b1aaca00ea7f38b869a1054ed3de"), looks := false }, kinds := [], alts := [], laidByText := true, laidKinds := [.data, .pinned], laidTests := true, laidLooks := .later }
def FrameDoneUptoCardSaid : Prop := Claim7.holds Tryd.pinned (.plain (OpenSpec.upto frameDoneSpec)) frameDoneUptoCard

/-- THE SECOND FORM's CARD OF 'mandolinelaw13.FrameDealt'. -/
def frameDealtUptoCard : Claim7 := { stood := { row := frameDealtUptoRow, standIns := [], harness := (true, "87d5f9219f07a079969b4c10c39daa5a43c4b1aaca00ea7f38b869a1054ed3de"), looks := false }, kinds := [], alts := [], laidByText := true, laidKinds := [.data, .pinned], laidTests := true, laidLooks := .later }
def FrameDealtUptoCardSaid : Prop := Claim7.holds Tryd.pinned (.plain (OpenSpec.upto frameDealtSpec)) frameDealtUptoCard

/-- THE SECOND FORM's CARD OF 'mandolinelaw13.FrameChunks'. -/
def frameChunksUptoCard : Claim7 := { stood := { row := frameChunksUptoRow, standIns := [], harness := (true, "87d5f9219f07a079969b4c10c39daa5a43c4b1aaca00ea7f38b869a1054ed3de"), looks := false }, kinds := [], alts := [], laidByText := true, laidKinds := [.data, .data, .data, .data, .pinned], laidTests := true, laidLooks := .later }
def FrameChunksUptoCardSaid : Prop := Claim7.holds Tryd.pinned (.plain (OpenSpec.upto frameChunksSpec)) frameChunksUptoCard
end Rows
end Go.Proofs.YtiigkacmahecaaaDoor
