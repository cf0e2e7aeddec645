/-
  No cell of these rows narrows 'for every input' (looked for: loops, veiled, ifaces, maps, wideKeys, modest, calm, conditions, laid).
  DERIVED. THE GIVEN ROWS OF THIS SEAT. 6 by the template 'for every input the law returns true; each argument reads behind the call as it read before'; 0 by the template 'total and deterministic' (their statements: YtdbocpgkedgpcaaTotals.lean).
  GIVEN WITH THE SEED: the statements are not yours to turn. If you find one false, say at which input.
  Laid BY PROGRAM, IN A SANDBOX (cutbox-rows.mjs): the forced cells as the released guide's own fill.sh prints them over the translation c53684a35e32bd17… (all of the seat's roots in one cut). By AI agents, Wed Nov 11 2026. No macro, syntax, notation, axiom, sorry.
-/
import Derived.Test.YtdbocpgkedgpcaaChecked
import GoSem.Claim
import GoSem.ClaimJoined
import GoSem.ClaimMapViews
import Derived.JoinedTies
import Derived.KernelRfl
namespace Go.Proofs.Ytdbocpgkedgpcaa
/- THE CELL 'sum', in the pinned program and in every row, IS THE sha256 OF THE DUMP (.gsa) THAT YtdbocpgkedgpcaaProg.lean LOADS. Nothing in Lean hashes anything: it is a label: what it is worth is what the hold of that sum in a sandbox is worth. -/
noncomputable def Try.pinned : Pinned := { name := "ytdbocpgkedgpcaa", sum := "c53684a35e32bd17173e12c15d262fb567b43fcc16eb0bbe590561d6aeb7c0fb", checked := Try.checked }
namespace Rows
def none {H : Type} : Left H := { results := [], args := [] }

/-- 'mandolinelaw38.FetchReads': WHATEVER THE INPUT: true; the input reads as it did. -/
def fetchReadsSpec : ChangeSpec := { name := "fetchReads", fn := fun _ => fun
  | [d1, d2] => { results := [.lit (.bool true)], args := [d1, d2] }
  | _ => none }
def fetchReadsRow : OpenClaim := { program := "ytdbocpgkedgpcaa", sum := "c53684a35e32bd17173e12c15d262fb567b43fcc16eb0bbe590561d6aeb7c0fb", func := "mandoline/mandolinelaw38.FetchReads", spec := "fetchReads", apart := false }
def FetchReadsSaid : Prop := fetchReadsRow.holds Try.pinned (OpenSpec.ofChange fetchReadsSpec)

/-- ITS FALSE NEIGHBOUR: 'it returns false'. Refute it at one input. -/
def fetchReadsWrong : ChangeSpec := { name := "fetchReads", fn := fun _ => fun
  | [d1, d2] => { results := [.lit (.bool false)], args := [d1, d2] }
  | _ => none }
def FetchReadsWrongFalsely : Prop := fetchReadsRow.holds Try.pinned (OpenSpec.ofChange fetchReadsWrong)

/-- 'mandolinelaw38.FetchPlays': WHATEVER THE INPUT: true; the input reads as it did. -/
def fetchPlaysSpec : ChangeSpec := { name := "fetchPlays", fn := fun _ => fun
  | [d1, d2] => { results := [.lit (.bool true)], args := [d1, d2] }
  | _ => none }
def fetchPlaysRow : OpenClaim := { program := "ytdbocpgkedgpcaa", sum := "c53684a35e32bd17173e12c15d262fb567b43fcc16eb0bbe590561d6aeb7c0fb", func := "mandoline/mandolinelaw38.FetchPlays", spec := "fetchPlays", apart := false }
def FetchPlaysSaid : Prop := fetchPlaysRow.holds Try.pinned (OpenSpec.ofChange fetchPlaysSpec)

/-- ITS FALSE NEIGHBOUR: 'it returns false'. Refute it at one input. -/
def fetchPlaysWrong : ChangeSpec := { name := "fetchPlays", fn := fun _ => fun
  | [d1, d2] => { results := [.lit (.bool false)], args := [d1, d2] }
  | _ => none }
def FetchPlaysWrongFalsely : Prop := fetchPlaysRow.holds Try.pinned (OpenSpec.ofChange fetchPlaysWrong)

/-- 'mandolinelaw38.FetchGoes': WHATEVER THE INPUT: true; the input reads as it did. -/
def fetchGoesSpec : ChangeSpec := { name := "fetchGoes", fn := fun _ => fun
  | [d1, d2, d3] => { results := [.lit (.bool true)], args := [d1, d2, d3] }
  | _ => none }
def fetchGoesRow : OpenClaim := { program := "ytdbocpgkedgpcaa", sum := "c53684a35e32bd17173e12c15d262fb567b43fcc16eb0bbe590561d6aeb7c0fb", func := "mandoline/mandolinelaw38.FetchGoes", spec := "fetchGoes", apart := false }
def FetchGoesSaid : Prop := fetchGoesRow.holds Try.pinned (OpenSpec.ofChange fetchGoesSpec)

/-- ITS FALSE NEIGHBOUR: 'it returns false'. Refute it at one input. -/
def fetchGoesWrong : ChangeSpec := { name := "fetchGoes", fn := fun _ => fun
  | [d1, d2, d3] => { results := [.lit (.bool false)], args := [d1, d2, d3] }
  | _ => none }
def FetchGoesWrongFalsely : Prop := fetchGoesRow.holds Try.pinned (OpenSpec.ofChange fetchGoesWrong)

/-- 'mandolinelaw38.FetchAsked': WHATEVER THE INPUT: true; the input reads as it did. -/
def fetchAskedSpec : ChangeSpec := { name := "fetchAsked", fn := fun _ => fun
  | [d1, d2] => { results := [.lit (.bool true)], args := [d1, d2] }
  | _ => none }
def fetchAskedRow : OpenClaim := { program := "ytdbocpgkedgpcaa", sum := "c53684a35e32bd17173e12c15d262fb567b43fcc16eb0bbe590561d6aeb7c0fb", func := "mandoline/mandolinelaw38.FetchAsked", spec := "fetchAsked", apart := false }
def FetchAskedSaid : Prop := fetchAskedRow.holds Try.pinned (OpenSpec.ofChange fetchAskedSpec)

/-- ITS FALSE NEIGHBOUR: 'it returns false'. Refute it at one input. -/
def fetchAskedWrong : ChangeSpec := { name := "fetchAsked", fn := fun _ => fun
  | [d1, d2] => { results := [.lit (.bool false)], args := [d1, d2] }
  | _ => none }
def FetchAskedWrongFalsely : Prop := fetchAskedRow.holds Try.pinned (OpenSpec.ofChange fetchAskedWrong)

/-- 'mandolinelaw38.FetchOver': WHATEVER THE INPUT: true; the input reads as it did. -/
def fetchOverSpec : ChangeSpec := { name := "fetchOver", fn := fun _ => fun
  | [d1, d2, d3] => { results := [.lit (.bool true)], args := [d1, d2, d3] }
  | _ => none }
def fetchOverRow : OpenClaim := { program := "ytdbocpgkedgpcaa", sum := "c53684a35e32bd17173e12c15d262fb567b43fcc16eb0bbe590561d6aeb7c0fb", func := "mandoline/mandolinelaw38.FetchOver", spec := "fetchOver", apart := false }
def FetchOverSaid : Prop := fetchOverRow.holds Try.pinned (OpenSpec.ofChange fetchOverSpec)

/-- ITS FALSE NEIGHBOUR: 'it returns false'. Refute it at one input. -/
def fetchOverWrong : ChangeSpec := { name := "fetchOver", fn := fun _ => fun
  | [d1, d2, d3] => { results := [.lit (.bool false)], args := [d1, d2, d3] }
  | _ => none }
def FetchOverWrongFalsely : Prop := fetchOverRow.holds Try.pinned (OpenSpec.ofChange fetchOverWrong)

/-- 'mandolinelaw38.FetchNil': WHATEVER THE INPUT: true; the input reads as it did. -/
def fetchNilSpec : ChangeSpec := { name := "fetchNil", fn := fun _ => fun
  | [d] => { results := [.lit (.bool true)], args := [d] }
  | _ => none }
def fetchNilRow : OpenClaim := { program := "ytdbocpgkedgpcaa", sum := "c53684a35e32bd17173e12c15d262fb567b43fcc16eb0bbe590561d6aeb7c0fb", func := "mandoline/mandolinelaw38.FetchNil", spec := "fetchNil", apart := false }
def FetchNilSaid : Prop := fetchNilRow.holds Try.pinned (OpenSpec.ofChange fetchNilSpec)

/-- ITS FALSE NEIGHBOUR: 'it returns false'. Refute it at one input. -/
def fetchNilWrong : ChangeSpec := { name := "fetchNil", fn := fun _ => fun
  | [d] => { results := [.lit (.bool false)], args := [d] }
  | _ => none }
def FetchNilWrongFalsely : Prop := fetchNilRow.holds Try.pinned (OpenSpec.ofChange fetchNilWrong)

/- THE SECOND FORM. 'bulk': how many values and letters a reading holds, each counted each time it is reached (what is shared counts as often as it is met; a slice's spare places count too). A statement '..UptoSaid' is the law's where the arguments, and the package variables that the reading takes, are together of bulk at most 1048576: NARROWER than '..Said'. Prove '..Said' where nothing that the law and all that it calls make is longer than what came in: it says more and counts as full. Else prove '..UptoSaid'. A law counts once. -/
mutual
def uptoBulk {H : Type} : DataW H → Nat
  | .lit (.string bytes) => bytes.length + 1
  | .lit _ => 1
  | .nil => 1
  | .ptr d => uptoBulk d + 1
  | .slice elems spare => uptoBulkAll elems + uptoBulkAll spare + 1
  | .agg parts => uptoBulkAll parts + 1
  | .iface _ d => uptoBulk d + 1
  | .map entries => uptoBulkEntries entries + 1
  | .held _ => 1
def uptoBulkAll {H : Type} : List (DataW H) → Nat
  | [] => 0
  | d :: r => uptoBulk d + uptoBulkAll r
def uptoBulkEntries {H : Type} : List (Lit × DataW H) → Nat
  | [] => 0
  | x :: r => uptoBulkEntry x + uptoBulkEntries r
def uptoBulkEntry {H : Type} : Lit × DataW H → Nat
  | (.string bytes, d) => bytes.length + uptoBulk d + 1
  | (_, d) => uptoBulk d + 1
 end
def uptoSmall : (H : Type) → List (DataW H) → Bool := fun _ ds => decide (uptoBulkAll ds ≤ 1048576)
def OpenSpec.upto (s : _root_.Go.ChangeSpec) : _root_.Go.OpenSpec := { _root_.Go.OpenSpec.ofChange s with cond := some uptoSmall }

/-- 'mandolinelaw38.FetchReads', WHERE WHAT IT READS IS OF BULK AT MOST 1048576: true; the input reads as it did. -/
def fetchReadsUptoRow : OpenClaim := { program := "ytdbocpgkedgpcaa", sum := "c53684a35e32bd17173e12c15d262fb567b43fcc16eb0bbe590561d6aeb7c0fb", func := "mandoline/mandolinelaw38.FetchReads", spec := "fetchReads", apart := false, narrowed := true }
def FetchReadsUptoSaid : Prop := fetchReadsUptoRow.holds Try.pinned (OpenSpec.upto fetchReadsSpec)

/-- 'mandolinelaw38.FetchPlays', WHERE WHAT IT READS IS OF BULK AT MOST 1048576: true; the input reads as it did. -/
def fetchPlaysUptoRow : OpenClaim := { program := "ytdbocpgkedgpcaa", sum := "c53684a35e32bd17173e12c15d262fb567b43fcc16eb0bbe590561d6aeb7c0fb", func := "mandoline/mandolinelaw38.FetchPlays", spec := "fetchPlays", apart := false, narrowed := true }
def FetchPlaysUptoSaid : Prop := fetchPlaysUptoRow.holds Try.pinned (OpenSpec.upto fetchPlaysSpec)

/-- 'mandolinelaw38.FetchGoes', WHERE WHAT IT READS IS OF BULK AT MOST 1048576: true; the input reads as it did. -/
def fetchGoesUptoRow : OpenClaim := { program := "ytdbocpgkedgpcaa", sum := "c53684a35e32bd17173e12c15d262fb567b43fcc16eb0bbe590561d6aeb7c0fb", func := "mandoline/mandolinelaw38.FetchGoes", spec := "fetchGoes", apart := false, narrowed := true }
def FetchGoesUptoSaid : Prop := fetchGoesUptoRow.holds Try.pinned (OpenSpec.upto fetchGoesSpec)

/-- 'mandolinelaw38.FetchAsked', WHERE WHAT IT READS IS OF BULK AT MOST 1048576: true; the input reads as it did. -/
def fetchAskedUptoRow : OpenClaim := { program := "ytdbocpgkedgpcaa", sum := "c53684a35e32bd17173e12c15d262fb567b43fcc16eb0bbe590561d6aeb7c0fb", func := "mandoline/mandolinelaw38.FetchAsked", spec := "fetchAsked", apart := false, narrowed := true }
def FetchAskedUptoSaid : Prop := fetchAskedUptoRow.holds Try.pinned (OpenSpec.upto fetchAskedSpec)

/-- 'mandolinelaw38.FetchOver', WHERE WHAT IT READS IS OF BULK AT MOST 1048576: true; the input reads as it did. -/
def fetchOverUptoRow : OpenClaim := { program := "ytdbocpgkedgpcaa", sum := "c53684a35e32bd17173e12c15d262fb567b43fcc16eb0bbe590561d6aeb7c0fb", func := "mandoline/mandolinelaw38.FetchOver", spec := "fetchOver", apart := false, narrowed := true }
def FetchOverUptoSaid : Prop := fetchOverUptoRow.holds Try.pinned (OpenSpec.upto fetchOverSpec)

/-- 'mandolinelaw38.FetchNil', WHERE WHAT IT READS IS OF BULK AT MOST 1048576: true; the input reads as it did. -/
def fetchNilUptoRow : OpenClaim := { program := "ytdbocpgkedgpcaa", sum := "c53684a35e32bd17173e12c15d262fb567b43fcc16eb0bbe590561d6aeb7c0fb", func := "mandoline/mandolinelaw38.FetchNil", spec := "fetchNil", apart := false, narrowed := true }
def FetchNilUptoSaid : Prop := fetchNilUptoRow.holds Try.pinned (OpenSpec.upto fetchNilSpec)

end Rows
end Go.Proofs.Ytdbocpgkedgpcaa
