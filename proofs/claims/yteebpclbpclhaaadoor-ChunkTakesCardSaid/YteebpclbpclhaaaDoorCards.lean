/-
  DERIVED. GIVEN WITH THE SEED: THE CARDS: each row of YteebpclbpclhaaaDoorRows.lean that lists a variable, with what it lists TIED to the program's text (the seventh form; the later family's looks); each row that meets fmt, with fmt's text TOLD by the authors' own Lean function (tested against real Go, not proved from fmt's source: count such statements apart). THE CARD IS WHAT COUNTS. Prove the row's statement (the work); the ties are given (YteebpclbpclhaaaDoorTie.lean); close each card by the builder's one call (the guide's Derived/Test/ToyasCard.lean, 'card_holds'). Laid BY PROGRAM, IN A SANDBOX (cutbox-door.mjs). By AI agents, Wed Nov 11 2026. No macro, syntax, notation, axiom, sorry.
-/
import Derived.Test.YteebpclbpclhaaaDoorRows
import GoSem.ClaimSeven
namespace Go.Proofs.YteebpclbpclhaaaDoor
namespace Rows

/-- THE TIED CARD OF 'mandolinelaw10.ChunkTakes'. -/
def chunkTakesCard : Claim7 := { stood := { row := chunkTakesRow, standIns := [], harness := (true, "f987a4a0396fff2785e1ad74cfe65f009dd0aa7f232beab4135b1c0ac7259b95"), looks := false }, kinds := [], alts := [], laidByText := true, laidKinds := [.data, .data, .data], laidTests := true, laidLooks := .later }
def ChunkTakesCardSaid : Prop := Claim7.holds Tryd.pinned (.plain (OpenSpec.ofChange chunkTakesSpec)) chunkTakesCard

/-- THE TIED CARD OF 'mandolinelaw10.ChunkDealt'. -/
def chunkDealtCard : Claim7 := { stood := { row := chunkDealtRow, standIns := [], harness := (true, "f987a4a0396fff2785e1ad74cfe65f009dd0aa7f232beab4135b1c0ac7259b95"), looks := false }, kinds := [], alts := [], laidByText := true, laidKinds := [.data, .data, .data], laidTests := true, laidLooks := .later }
def ChunkDealtCardSaid : Prop := Claim7.holds Tryd.pinned (.plain (OpenSpec.ofChange chunkDealtSpec)) chunkDealtCard

/-- THE TIED CARD OF 'mandolinelaw10.ChunkPuts'. -/
def chunkPutsCard : Claim7 := { stood := { row := chunkPutsRow, standIns := [], harness := (true, "f987a4a0396fff2785e1ad74cfe65f009dd0aa7f232beab4135b1c0ac7259b95"), looks := false }, kinds := [], alts := [], laidByText := true, laidKinds := [.data, .data, .data], laidTests := true, laidLooks := .later }
def ChunkPutsCardSaid : Prop := Claim7.holds Tryd.pinned (.plain (OpenSpec.ofChange chunkPutsSpec)) chunkPutsCard

/-- THE TIED CARD OF 'mandolinelaw10.ChunkBack'. -/
def chunkBackCard : Claim7 := { stood := { row := chunkBackRow, standIns := [], harness := (true, "f987a4a0396fff2785e1ad74cfe65f009dd0aa7f232beab4135b1c0ac7259b95"), looks := false }, kinds := [], alts := [], laidByText := true, laidKinds := [.data, .data, .data], laidTests := true, laidLooks := .later }
def ChunkBackCardSaid : Prop := Claim7.holds Tryd.pinned (.plain (OpenSpec.ofChange chunkBackSpec)) chunkBackCard

/-- THE TIED CARD OF 'mandolinelaw10.ChunkStays'. -/
def chunkStaysCard : Claim7 := { stood := { row := chunkStaysRow, standIns := [], harness := (true, "f987a4a0396fff2785e1ad74cfe65f009dd0aa7f232beab4135b1c0ac7259b95"), looks := false }, kinds := [], alts := [], laidByText := true, laidKinds := [.data, .data, .data], laidTests := true, laidLooks := .later }
def ChunkStaysCardSaid : Prop := Claim7.holds Tryd.pinned (.plain (OpenSpec.ofChange chunkStaysSpec)) chunkStaysCard

/-- THE TIED CARD OF 'mandolinelaw10.ChunkJoins'. -/
def chunkJoinsCard : Claim7 := { stood := { row := chunkJoinsRow, standIns := [], harness := (true, "f987a4a0396fff2785e1ad74cfe65f009dd0aa7f232beab4135b1c0ac7259b95"), looks := false }, kinds := [], alts := [], laidByText := true, laidKinds := [.data, .data, .data], laidTests := true, laidLooks := .later }
def ChunkJoinsCardSaid : Prop := Claim7.holds Tryd.pinned (.plain (OpenSpec.ofChange chunkJoinsSpec)) chunkJoinsCard

/-- THE TIED CARD OF 'mandolinelaw10.ChunkOwn'. -/
def chunkOwnCard : Claim7 := { stood := { row := chunkOwnRow, standIns := [], harness := (true, "f987a4a0396fff2785e1ad74cfe65f009dd0aa7f232beab4135b1c0ac7259b95"), looks := false }, kinds := [], alts := [], laidByText := true, laidKinds := [.data, .data, .data], laidTests := true, laidLooks := .later }
def ChunkOwnCardSaid : Prop := Claim7.holds Tryd.pinned (.plain (OpenSpec.ofChange chunkOwnSpec)) chunkOwnCard

/-- THE SECOND FORM's CARD OF 'mandolinelaw10.ChunkTakes'. -/
def chunkTakesUptoCard : Claim7 := { stood := { row := chunkTakesUptoRow, standIns := [], harness := (true, "f987a4a0396fff2785e1ad74cfe65f009dd0aa7f232beab4135b1c0ac7259b95"), looks := false }, kinds := [], alts := [], laidByText := true, laidKinds := [.data, .data, .data], laidTests := true, laidLooks := .later }
def ChunkTakesUptoCardSaid : Prop := Claim7.holds Tryd.pinned (.plain (OpenSpec.upto chunkTakesSpec)) chunkTakesUptoCard

/-- THE SECOND FORM's CARD OF 'mandolinelaw10.ChunkDealt'. -/
def chunkDealtUptoCard : Claim7 := { stood := { row := chunkDealtUptoRow, standIns := [], harness := (true, "f987a4a0396fff2785e1ad74cfe65f009dd0aa7f232beab4135b1c0ac7259b95"), looks := false }, kinds := [], alts := [], laidByText := true, laidKinds := [.data, .data, .data], laidTests := true, laidLooks := .later }
def ChunkDealtUptoCardSaid : Prop := Claim7.holds Tryd.pinned (.plain (OpenSpec.upto chunkDealtSpec)) chunkDealtUptoCard

/-- THE SECOND FORM's CARD OF 'mandolinelaw10.ChunkPuts'. -/
def chunkPutsUptoCard : Claim7 := { stood := { row := chunkPutsUptoRow, standIns := [], harness := (true, "f987a4a0396fff2785e1ad74cfe65f009dd0aa7f232beab4135b1c0ac7259b95"), looks := false }, kinds := [], alts := [], laidByText := true, laidKinds := [.data, .data, .data], laidTests := true, laidLooks := .later }
def ChunkPutsUptoCardSaid : Prop := Claim7.holds Tryd.pinned (.plain (OpenSpec.upto chunkPutsSpec)) chunkPutsUptoCard

/-- THE SECOND FORM's CARD OF 'mandolinelaw10.ChunkBack'. -/
def chunkBackUptoCard : Claim7 := { stood := { row := chunkBackUptoRow, standIns := [], harness := (true, "f987a4a0396fff2785e1ad74cfe65f009dd0aa7f232beab4135b1c0ac7259b95"), looks := false }, kinds := [], alts := [], laidByText := true, laidKinds := [.data, .data, .data], laidTests := true, laidLooks := .later }
def ChunkBackUptoCardSaid : Prop := Claim7.holds Tryd.pinned (.plain (OpenSpec.upto chunkBackSpec)) chunkBackUptoCard

/-- THE SECOND FORM's CARD OF 'mandolinelaw10.ChunkStays'. -/
def chunkStaysUptoCard : Claim7 := { stood := { row := chunkStaysUptoRow, standIns := [], harness := (true, "f987a4a0396fff2785e1ad74cfe65f009dd0aa7f232beab4135b1c0ac7259b95"), looks := false }, kinds := [], alts := [], laidByText := true, laidKinds := [.data, .data, .data], laidTests := true, laidLooks := .later }
def ChunkStaysUptoCardSaid : Prop := Claim7.holds Tryd.pinned (.plain (OpenSpec.upto chunkStaysSpec)) chunkStaysUptoCard

/-- THE SECOND FORM's CARD OF 'mandolinelaw10.ChunkJoins'. -/
def chunkJoinsUptoCard : Claim7 := { stood := { row := chunkJoinsUptoRow, standIns := [], harness := (true, "f987a4a0396fff2785e1ad74cfe65f009dd0aa7f232beab4135b1c0ac7259b95"), looks := false }, kinds := [], alts := [], laidByText := true, laidKinds := [.data, .data, .data], laidTests := true, laidLooks := .later }
def ChunkJoinsUptoCardSaid : Prop := Claim7.holds Tryd.pinned (.plain (OpenSpec.upto chunkJoinsSpec)) chunkJoinsUptoCard

/-- THE SECOND FORM's CARD OF 'mandolinelaw10.ChunkOwn'. -/
def chunkOwnUptoCard : Claim7 := { stood := { row := chunkOwnUptoRow, standIns := [], harness := (true, "f987a4a0396fff2785e1ad74cfe65f009dd0aa7f232beab4135b1c0ac7259b95"), looks := false }, kinds := [], alts := [], laidByText := true, laidKinds := [.data, .data, .data], laidTests := true, laidLooks := .later }
def ChunkOwnUptoCardSaid : Prop := Claim7.holds Tryd.pinned (.plain (OpenSpec.upto chunkOwnSpec)) chunkOwnUptoCard
end Rows
end Go.Proofs.YteebpclbpclhaaaDoor
