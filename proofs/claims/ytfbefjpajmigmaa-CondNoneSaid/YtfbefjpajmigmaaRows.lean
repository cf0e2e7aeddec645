/-
  No cell of these rows narrows 'for every input' (looked for: loops, veiled, ifaces, maps, wideKeys, modest, calm, conditions, laid).
  DERIVED. THE GIVEN ROWS OF THIS SEAT. 11 by the template 'for every input the law returns true; each argument reads behind the call as it read before'; 0 by the template 'total and deterministic' (their statements: YtfbefjpajmigmaaTotals.lean).
  GIVEN WITH THE SEED: the statements are not yours to turn. If you find one false, say at which input.
  Laid BY PROGRAM, IN A SANDBOX (cutbox-rows.mjs): the forced cells as the released guide's own fill.sh prints them over the translation 4bdc48f0af291e77… (all of the seat's roots in one cut). By AI agents, Wed Nov 11 2026. No macro, syntax, notation, axiom, sorry.
-/
import Derived.Test.YtfbefjpajmigmaaChecked
import GoSem.Claim
import GoSem.ClaimJoined
import GoSem.ClaimMapViews
import Derived.JoinedTies
import Derived.KernelRfl
namespace Go.Proofs.Ytfbefjpajmigmaa
/- THE CELL 'sum', in the pinned program and in every row, IS THE sha256 OF THE DUMP (.gsa) THAT YtfbefjpajmigmaaProg.lean LOADS. Nothing in Lean hashes anything: it is a label: what it is worth is what the hold of that sum in a sandbox is worth. -/
noncomputable def Try.pinned : Pinned := { name := "ytfbefjpajmigmaa", sum := "4bdc48f0af291e77ee69c7f472970578bbfba013038c59e6ddd24d6011f9d9df", checked := Try.checked }
namespace Rows
def none {H : Type} : Left H := { results := [], args := [] }

/-- 'mandolinelaw08.CondChecks': WHATEVER THE INPUT: true; the input reads as it did. -/
def condChecksSpec : ChangeSpec := { name := "condChecks", fn := fun _ => fun
  | [d1, d2, d3] => { results := [.lit (.bool true)], args := [d1, d2, d3] }
  | _ => none }
def condChecksRow : OpenClaim := { program := "ytfbefjpajmigmaa", sum := "4bdc48f0af291e77ee69c7f472970578bbfba013038c59e6ddd24d6011f9d9df", func := "mandoline/mandolinelaw08.CondChecks", spec := "condChecks", apart := false }
def CondChecksSaid : Prop := condChecksRow.holds Try.pinned (OpenSpec.ofChange condChecksSpec)

/-- ITS FALSE NEIGHBOUR: 'it returns false'. Refute it at one input. -/
def condChecksWrong : ChangeSpec := { name := "condChecks", fn := fun _ => fun
  | [d1, d2, d3] => { results := [.lit (.bool false)], args := [d1, d2, d3] }
  | _ => none }
def CondChecksWrongFalsely : Prop := condChecksRow.holds Try.pinned (OpenSpec.ofChange condChecksWrong)

/-- 'mandolinelaw08.CondOrder': WHATEVER THE INPUT: true; the input reads as it did. -/
def condOrderSpec : ChangeSpec := { name := "condOrder", fn := fun _ => fun
  | [d1, d2, d3] => { results := [.lit (.bool true)], args := [d1, d2, d3] }
  | _ => none }
def condOrderRow : OpenClaim := { program := "ytfbefjpajmigmaa", sum := "4bdc48f0af291e77ee69c7f472970578bbfba013038c59e6ddd24d6011f9d9df", func := "mandoline/mandolinelaw08.CondOrder", spec := "condOrder", apart := false }
def CondOrderSaid : Prop := condOrderRow.holds Try.pinned (OpenSpec.ofChange condOrderSpec)

/-- ITS FALSE NEIGHBOUR: 'it returns false'. Refute it at one input. -/
def condOrderWrong : ChangeSpec := { name := "condOrder", fn := fun _ => fun
  | [d1, d2, d3] => { results := [.lit (.bool false)], args := [d1, d2, d3] }
  | _ => none }
def CondOrderWrongFalsely : Prop := condOrderRow.holds Try.pinned (OpenSpec.ofChange condOrderWrong)

/-- 'mandolinelaw08.CondStrict': WHATEVER THE INPUT: true; the input reads as it did. -/
def condStrictSpec : ChangeSpec := { name := "condStrict", fn := fun _ => fun
  | [d1, d2, d3] => { results := [.lit (.bool true)], args := [d1, d2, d3] }
  | _ => none }
def condStrictRow : OpenClaim := { program := "ytfbefjpajmigmaa", sum := "4bdc48f0af291e77ee69c7f472970578bbfba013038c59e6ddd24d6011f9d9df", func := "mandoline/mandolinelaw08.CondStrict", spec := "condStrict", apart := false }
def CondStrictSaid : Prop := condStrictRow.holds Try.pinned (OpenSpec.ofChange condStrictSpec)

/-- ITS FALSE NEIGHBOUR: 'it returns false'. Refute it at one input. -/
def condStrictWrong : ChangeSpec := { name := "condStrict", fn := fun _ => fun
  | [d1, d2, d3] => { results := [.lit (.bool false)], args := [d1, d2, d3] }
  | _ => none }
def CondStrictWrongFalsely : Prop := condStrictRow.holds Try.pinned (OpenSpec.ofChange condStrictWrong)

/-- 'mandolinelaw06.DateOf': WHATEVER THE INPUT: true; the input reads as it did. -/
def dateOfSpec : ChangeSpec := { name := "dateOf", fn := fun _ => fun
  | [d] => { results := [.lit (.bool true)], args := [d] }
  | _ => none }
def dateOfRow : OpenClaim := { program := "ytfbefjpajmigmaa", sum := "4bdc48f0af291e77ee69c7f472970578bbfba013038c59e6ddd24d6011f9d9df", func := "mandoline/mandolinelaw06.DateOf", spec := "dateOf", apart := false }
def DateOfSaid : Prop := dateOfRow.holds Try.pinned (OpenSpec.ofChange dateOfSpec)

/-- ITS FALSE NEIGHBOUR: 'it returns false'. Refute it at one input. -/
def dateOfWrong : ChangeSpec := { name := "dateOf", fn := fun _ => fun
  | [d] => { results := [.lit (.bool false)], args := [d] }
  | _ => none }
def DateOfWrongFalsely : Prop := dateOfRow.holds Try.pinned (OpenSpec.ofChange dateOfWrong)

/-- 'mandolinelaw06.DateTicks': WHATEVER THE INPUT: true; the input reads as it did. -/
def dateTicksSpec : ChangeSpec := { name := "dateTicks", fn := fun _ => fun
  | [d1, d2] => { results := [.lit (.bool true)], args := [d1, d2] }
  | _ => none }
def dateTicksRow : OpenClaim := { program := "ytfbefjpajmigmaa", sum := "4bdc48f0af291e77ee69c7f472970578bbfba013038c59e6ddd24d6011f9d9df", func := "mandoline/mandolinelaw06.DateTicks", spec := "dateTicks", apart := false }
def DateTicksSaid : Prop := dateTicksRow.holds Try.pinned (OpenSpec.ofChange dateTicksSpec)

/-- ITS FALSE NEIGHBOUR: 'it returns false'. Refute it at one input. -/
def dateTicksWrong : ChangeSpec := { name := "dateTicks", fn := fun _ => fun
  | [d1, d2] => { results := [.lit (.bool false)], args := [d1, d2] }
  | _ => none }
def DateTicksWrongFalsely : Prop := dateTicksRow.holds Try.pinned (OpenSpec.ofChange dateTicksWrong)

/-- 'mandolinelaw06.DateTexts': WHATEVER THE INPUT: true; the input reads as it did. -/
def dateTextsSpec : ChangeSpec := { name := "dateTexts", fn := fun _ => fun
  | [d] => { results := [.lit (.bool true)], args := [d] }
  | _ => none }
def dateTextsRow : OpenClaim := { program := "ytfbefjpajmigmaa", sum := "4bdc48f0af291e77ee69c7f472970578bbfba013038c59e6ddd24d6011f9d9df", func := "mandoline/mandolinelaw06.DateTexts", spec := "dateTexts", apart := false }
def DateTextsSaid : Prop := dateTextsRow.holds Try.pinned (OpenSpec.ofChange dateTextsSpec)

/-- ITS FALSE NEIGHBOUR: 'it returns false'. Refute it at one input. -/
def dateTextsWrong : ChangeSpec := { name := "dateTexts", fn := fun _ => fun
  | [d] => { results := [.lit (.bool false)], args := [d] }
  | _ => none }
def DateTextsWrongFalsely : Prop := dateTextsRow.holds Try.pinned (OpenSpec.ofChange dateTextsWrong)

/-- 'mandolinelaw06.DateParses': WHATEVER THE INPUT: true; the input reads as it did. -/
def dateParsesSpec : ChangeSpec := { name := "dateParses", fn := fun _ => fun
  | [d] => { results := [.lit (.bool true)], args := [d] }
  | _ => none }
def dateParsesRow : OpenClaim := { program := "ytfbefjpajmigmaa", sum := "4bdc48f0af291e77ee69c7f472970578bbfba013038c59e6ddd24d6011f9d9df", func := "mandoline/mandolinelaw06.DateParses", spec := "dateParses", apart := false }
def DateParsesSaid : Prop := dateParsesRow.holds Try.pinned (OpenSpec.ofChange dateParsesSpec)

/-- ITS FALSE NEIGHBOUR: 'it returns false'. Refute it at one input. -/
def dateParsesWrong : ChangeSpec := { name := "dateParses", fn := fun _ => fun
  | [d] => { results := [.lit (.bool false)], args := [d] }
  | _ => none }
def DateParsesWrongFalsely : Prop := dateParsesRow.holds Try.pinned (OpenSpec.ofChange dateParsesWrong)

/-- 'mandolinelaw06.DateLeaps': WHATEVER THE INPUT: true; the input reads as it did. -/
def dateLeapsSpec : ChangeSpec := { name := "dateLeaps", fn := fun _ => fun
  | [d] => { results := [.lit (.bool true)], args := [d] }
  | _ => none }
def dateLeapsRow : OpenClaim := { program := "ytfbefjpajmigmaa", sum := "4bdc48f0af291e77ee69c7f472970578bbfba013038c59e6ddd24d6011f9d9df", func := "mandoline/mandolinelaw06.DateLeaps", spec := "dateLeaps", apart := false }
def DateLeapsSaid : Prop := dateLeapsRow.holds Try.pinned (OpenSpec.ofChange dateLeapsSpec)

/-- ITS FALSE NEIGHBOUR: 'it returns false'. Refute it at one input. -/
def dateLeapsWrong : ChangeSpec := { name := "dateLeaps", fn := fun _ => fun
  | [d] => { results := [.lit (.bool false)], args := [d] }
  | _ => none }
def DateLeapsWrongFalsely : Prop := dateLeapsRow.holds Try.pinned (OpenSpec.ofChange dateLeapsWrong)

/-- 'mandolinelaw06.DateNext': WHATEVER THE INPUT: true; the input reads as it did. -/
def dateNextSpec : ChangeSpec := { name := "dateNext", fn := fun _ => fun
  | [d] => { results := [.lit (.bool true)], args := [d] }
  | _ => none }
def dateNextRow : OpenClaim := { program := "ytfbefjpajmigmaa", sum := "4bdc48f0af291e77ee69c7f472970578bbfba013038c59e6ddd24d6011f9d9df", func := "mandoline/mandolinelaw06.DateNext", spec := "dateNext", apart := false }
def DateNextSaid : Prop := dateNextRow.holds Try.pinned (OpenSpec.ofChange dateNextSpec)

/-- ITS FALSE NEIGHBOUR: 'it returns false'. Refute it at one input. -/
def dateNextWrong : ChangeSpec := { name := "dateNext", fn := fun _ => fun
  | [d] => { results := [.lit (.bool false)], args := [d] }
  | _ => none }
def DateNextWrongFalsely : Prop := dateNextRow.holds Try.pinned (OpenSpec.ofChange dateNextWrong)

/-- 'mandolinelaw06.DateBack': WHATEVER THE INPUT: true; the input reads as it did. -/
def dateBackSpec : ChangeSpec := { name := "dateBack", fn := fun _ => fun
  | [d1, d2] => { results := [.lit (.bool true)], args := [d1, d2] }
  | _ => none }
def dateBackRow : OpenClaim := { program := "ytfbefjpajmigmaa", sum := "4bdc48f0af291e77ee69c7f472970578bbfba013038c59e6ddd24d6011f9d9df", func := "mandoline/mandolinelaw06.DateBack", spec := "dateBack", apart := false }
def DateBackSaid : Prop := dateBackRow.holds Try.pinned (OpenSpec.ofChange dateBackSpec)

/-- ITS FALSE NEIGHBOUR: 'it returns false'. Refute it at one input. -/
def dateBackWrong : ChangeSpec := { name := "dateBack", fn := fun _ => fun
  | [d1, d2] => { results := [.lit (.bool false)], args := [d1, d2] }
  | _ => none }
def DateBackWrongFalsely : Prop := dateBackRow.holds Try.pinned (OpenSpec.ofChange dateBackWrong)

/-- 'mandolinelaw08.CondNone': WHATEVER THE INPUT: true; the input reads as it did. -/
def condNoneSpec : ChangeSpec := { name := "condNone", fn := fun _ => fun
  | [d1, d2, d3] => { results := [.lit (.bool true)], args := [d1, d2, d3] }
  | _ => none }
def condNoneRow : OpenClaim := { program := "ytfbefjpajmigmaa", sum := "4bdc48f0af291e77ee69c7f472970578bbfba013038c59e6ddd24d6011f9d9df", func := "mandoline/mandolinelaw08.CondNone", spec := "condNone", apart := false }
def CondNoneSaid : Prop := condNoneRow.holds Try.pinned (OpenSpec.ofChange condNoneSpec)

/-- ITS FALSE NEIGHBOUR: 'it returns false'. Refute it at one input. -/
def condNoneWrong : ChangeSpec := { name := "condNone", fn := fun _ => fun
  | [d1, d2, d3] => { results := [.lit (.bool false)], args := [d1, d2, d3] }
  | _ => none }
def CondNoneWrongFalsely : Prop := condNoneRow.holds Try.pinned (OpenSpec.ofChange condNoneWrong)

/- THE SECOND FORM. 'bulk': how many values and letters a reading holds, each counted each time it is reached (what is shared counts as often as it is met; a slice's spare places count too). A statement '..UptoSaid' is the law's where the arguments, and the package variables that the reading takes, are together of bulk at most 1048576: NARROWER than '..Said'. Prove '..Said' where nothing that the law and all that it calls make is longer than what came in: it says more and counts as full. Else prove '..UptoSaid'. A law counts once. -/
mutual
def uptoBulk {H : Type} : DataW H → Nat
  | .lit (.string bytes) => bytes.length + 1
  | .lit _ => 1
  | .nil => 1
  | .ptr d => uptoBulk d + 1
  | .slice elems spare => uptoBulkAll elems + uptoBulkAll spare + 1
  | .agg parts => uptoBulkAll parts + 1
  | .iface _ d => uptoBulk d + 1
  | .map entries => uptoBulkEntries entries + 1
  | .held _ => 1
def uptoBulkAll {H : Type} : List (DataW H) → Nat
  | [] => 0
  | d :: r => uptoBulk d + uptoBulkAll r
def uptoBulkEntries {H : Type} : List (Lit × DataW H) → Nat
  | [] => 0
  | x :: r => uptoBulkEntry x + uptoBulkEntries r
def uptoBulkEntry {H : Type} : Lit × DataW H → Nat
  | (.string bytes, d) => bytes.length + uptoBulk d + 1
  | (_, d) => uptoBulk d + 1
 end
def uptoSmall : (H : Type) → List (DataW H) → Bool := fun _ ds => decide (uptoBulkAll ds ≤ 1048576)
def OpenSpec.upto (s : _root_.Go.ChangeSpec) : _root_.Go.OpenSpec := { _root_.Go.OpenSpec.ofChange s with cond := some uptoSmall }

/-- 'mandolinelaw08.CondChecks', WHERE WHAT IT READS IS OF BULK AT MOST 1048576: true; the input reads as it did. -/
def condChecksUptoRow : OpenClaim := { program := "ytfbefjpajmigmaa", sum := "4bdc48f0af291e77ee69c7f472970578bbfba013038c59e6ddd24d6011f9d9df", func := "mandoline/mandolinelaw08.CondChecks", spec := "condChecks", apart := false, narrowed := true }
def CondChecksUptoSaid : Prop := condChecksUptoRow.holds Try.pinned (OpenSpec.upto condChecksSpec)

/-- 'mandolinelaw08.CondOrder', WHERE WHAT IT READS IS OF BULK AT MOST 1048576: true; the input reads as it did. -/
def condOrderUptoRow : OpenClaim := { program := "ytfbefjpajmigmaa", sum := "4bdc48f0af291e77ee69c7f472970578bbfba013038c59e6ddd24d6011f9d9df", func := "mandoline/mandolinelaw08.CondOrder", spec := "condOrder", apart := false, narrowed := true }
def CondOrderUptoSaid : Prop := condOrderUptoRow.holds Try.pinned (OpenSpec.upto condOrderSpec)

/-- 'mandolinelaw08.CondStrict', WHERE WHAT IT READS IS OF BULK AT MOST 1048576: true; the input reads as it did. -/
def condStrictUptoRow : OpenClaim := { program := "ytfbefjpajmigmaa", sum := "4bdc48f0af291e77ee69c7f472970578bbfba013038c59e6ddd24d6011f9d9df", func := "mandoline/mandolinelaw08.CondStrict", spec := "condStrict", apart := false, narrowed := true }
def CondStrictUptoSaid : Prop := condStrictUptoRow.holds Try.pinned (OpenSpec.upto condStrictSpec)

/-- 'mandolinelaw06.DateOf', WHERE WHAT IT READS IS OF BULK AT MOST 1048576: true; the input reads as it did. -/
def dateOfUptoRow : OpenClaim := { program := "ytfbefjpajmigmaa", sum := "4bdc48f0af291e77ee69c7f472970578bbfba013038c59e6ddd24d6011f9d9df", func := "mandoline/mandolinelaw06.DateOf", spec := "dateOf", apart := false, narrowed := true }
def DateOfUptoSaid : Prop := dateOfUptoRow.holds Try.pinned (OpenSpec.upto dateOfSpec)

/-- 'mandolinelaw06.DateTicks', WHERE WHAT IT READS IS OF BULK AT MOST 1048576: true; the input reads as it did. -/
def dateTicksUptoRow : OpenClaim := { program := "ytfbefjpajmigmaa", sum := "4bdc48f0af291e77ee69c7f472970578bbfba013038c59e6ddd24d6011f9d9df", func := "mandoline/mandolinelaw06.DateTicks", spec := "dateTicks", apart := false, narrowed := true }
def DateTicksUptoSaid : Prop := dateTicksUptoRow.holds Try.pinned (OpenSpec.upto dateTicksSpec)

/-- 'mandolinelaw06.DateTexts', WHERE WHAT IT READS IS OF BULK AT MOST 1048576: true; the input reads as it did. -/
def dateTextsUptoRow : OpenClaim := { program := "ytfbefjpajmigmaa", sum := "4bdc48f0af291e77ee69c7f472970578bbfba013038c59e6ddd24d6011f9d9df", func := "mandoline/mandolinelaw06.DateTexts", spec := "dateTexts", apart := false, narrowed := true }
def DateTextsUptoSaid : Prop := dateTextsUptoRow.holds Try.pinned (OpenSpec.upto dateTextsSpec)

/-- 'mandolinelaw06.DateParses', WHERE WHAT IT READS IS OF BULK AT MOST 1048576: true; the input reads as it did. -/
def dateParsesUptoRow : OpenClaim := { program := "ytfbefjpajmigmaa", sum := "4bdc48f0af291e77ee69c7f472970578bbfba013038c59e6ddd24d6011f9d9df", func := "mandoline/mandolinelaw06.DateParses", spec := "dateParses", apart := false, narrowed := true }
def DateParsesUptoSaid : Prop := dateParsesUptoRow.holds Try.pinned (OpenSpec.upto dateParsesSpec)

/-- 'mandolinelaw06.DateLeaps', WHERE WHAT IT READS IS OF BULK AT MOST 1048576: true; the input reads as it did. -/
def dateLeapsUptoRow : OpenClaim := { program := "ytfbefjpajmigmaa", sum := "4bdc48f0af291e77ee69c7f472970578bbfba013038c59e6ddd24d6011f9d9df", func := "mandoline/mandolinelaw06.DateLeaps", spec := "dateLeaps", apart := false, narrowed := true }
def DateLeapsUptoSaid : Prop := dateLeapsUptoRow.holds Try.pinned (OpenSpec.upto dateLeapsSpec)

/-- 'mandolinelaw06.DateNext', WHERE WHAT IT READS IS OF BULK AT MOST 1048576: true; the input reads as it did. -/
def dateNextUptoRow : OpenClaim := { program := "ytfbefjpajmigmaa", sum := "4bdc48f0af291e77ee69c7f472970578bbfba013038c59e6ddd24d6011f9d9df", func := "mandoline/mandolinelaw06.DateNext", spec := "dateNext", apart := false, narrowed := true }
def DateNextUptoSaid : Prop := dateNextUptoRow.holds Try.pinned (OpenSpec.upto dateNextSpec)

/-- 'mandolinelaw06.DateBack', WHERE WHAT IT READS IS OF BULK AT MOST 1048576: true; the input reads as it did. -/
def dateBackUptoRow : OpenClaim := { program := "ytfbefjpajmigmaa", sum := "4bdc48f0af291e77ee69c7f472970578bbfba013038c59e6ddd24d6011f9d9df", func := "mandoline/mandolinelaw06.DateBack", spec := "dateBack", apart := false, narrowed := true }
def DateBackUptoSaid : Prop := dateBackUptoRow.holds Try.pinned (OpenSpec.upto dateBackSpec)

/-- 'mandolinelaw08.CondNone', WHERE WHAT IT READS IS OF BULK AT MOST 1048576: true; the input reads as it did. -/
def condNoneUptoRow : OpenClaim := { program := "ytfbefjpajmigmaa", sum := "4bdc48f0af291e77ee69c7f472970578bbfba013038c59e6ddd24d6011f9d9df", func := "mandoline/mandolinelaw08.CondNone", spec := "condNone", apart := false, narrowed := true }
def CondNoneUptoSaid : Prop := condNoneUptoRow.holds Try.pinned (OpenSpec.upto condNoneSpec)

end Rows
end Go.Proofs.Ytfbefjpajmigmaa
