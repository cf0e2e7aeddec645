/-
  NARROWER THAN 'FOR EVERY INPUT', by the rows' own cells (each row's printed sentence says how): TagRight: laid · TagTexts: laid · TagLists: laid · TagBack: laid · TagSame: laid · TagIn: laid · TagBlanks: laid · CondParses: laid · CondOther: laid · CondFields: laid.
  DERIVED. THE GIVEN ROWS OF THIS SEAT. 10 by the template 'for every input the law returns true; each argument reads behind the call as it read before'; 0 by the template 'total and deterministic' (their statements: YtnipbhmacfnjfaaDoorTotals.lean).
  GIVEN WITH THE SEED: the statements are not yours to turn. If you find one false, say at which input.
  Laid BY PROGRAM, IN A SANDBOX (cutbox-rows.mjs): the forced cells as the released guide's own fill.sh prints them over the translation 2847194d636c1bc7… (all of the seat's roots in one cut). By AI agents, Wed Nov 11 2026. No macro, syntax, notation, axiom, sorry.
-/
import Derived.Test.YtnipbhmacfnjfaaDoorChecked
import GoSem.PinnedTables
import GoSem.Claim
import GoSem.ClaimJoined
import GoSem.ClaimMapViews
import Derived.JoinedTies
import Derived.KernelRfl
namespace Go.Proofs.YtnipbhmacfnjfaaDoor
/- THE CELL 'sum', in the pinned program and in every row, IS THE sha256 OF THE DUMP (.gsa) THAT YtnipbhmacfnjfaaDoorProg.lean LOADS. Nothing in Lean hashes anything: it is a label: what it is worth is what the hold of that sum in a sandbox is worth. -/
noncomputable def Tryd.pinned : Pinned := { name := "ytnipbhmacfnjfaadoor", sum := "2847194d636c1bc777609e7c598628e25470d97d8459f051c20f4f65d146a186", checked := Tryd.checked }
namespace Rows
def none {H : Type} : Left H := { results := [], args := [] }

/- WHAT THE LISTED PACKAGE-LEVEL VARIABLES READ AS WHEN THE CALL BEGINS. Each datum BY PROGRAM (the guide's laid-datum.mjs) off the statement by which the dump's own 'gosem.cut.vars' lays the variable. In a bare row this is a premise. The card (YtnipbhmacfnjfaaDoorCards.lean) ties it to the program's text. -/
def laid_unicode_utf8_acceptRanges {H : Type} : DataW H := .agg [.agg [.lit (.int .u8 128), .lit (.int .u8 191)], .agg [.lit (.int .u8 160), .lit (.int .u8 191)], .agg [.lit (.int .u8 128), .lit (.int .u8 159)], .agg [.lit (.int .u8 144), .lit (.int .u8 191)], .agg [.lit (.int .u8 128), .lit (.int .u8 143)], .agg [.lit (.int .u8 0), .lit (.int .u8 0)], .agg [.lit (.int .u8 0), .lit (.int .u8 0)], .agg [.lit (.int .u8 0), .lit (.int .u8 0)], .agg [.lit (.int .u8 0), .lit (.int .u8 0)], .agg [.lit (.int .u8 0), .lit (.int .u8 0)], .agg [.lit (.int .u8 0), .lit (.int .u8 0)], .agg [.lit (.int .u8 0), .lit (.int .u8 0)], .agg [.lit (.int .u8 0), .lit (.int .u8 0)], .agg [.lit (.int .u8 0), .lit (.int .u8 0)], .agg [.lit (.int .u8 0), .lit (.int .u8 0)], .agg [.lit (.int .u8 0), .lit (.int .u8 0)]]
/-- One of Go's own tables, pinned by name: the form's constant. -/
def laid_unicode_utf8_first : DataW Unit := Go.Pinned.utf8First

/-- 'mandolinelaw05.TagRight': WHATEVER THE INPUT: true; the input reads as it did. -/
def tagRightSpec : ChangeSpec := { name := "tagRight", fn := fun _ => fun
  | [d1, d2] => { results := [.lit (.bool true)], args := [d1, d2] }
  | _ => none }
def tagRightRow : OpenClaim := { program := "ytnipbhmacfnjfaadoor", sum := "2847194d636c1bc777609e7c598628e25470d97d8459f051c20f4f65d146a186", func := "mandoline/mandolinelaw05.TagRight", spec := "tagRight", inPlace := ["internal/bytealg.IndexByteString", "internal/bytealg.IndexString", "internal/abi.NoEscape"], named := ["unicode/utf8.first", "unicode/utf8.acceptRanges", "internal/bytealg.MaxLen"], apart := false, laid := [("unicode/utf8.acceptRanges", laid_unicode_utf8_acceptRanges), ("unicode/utf8.first", laid_unicode_utf8_first)] }
def TagRightSaid : Prop := tagRightRow.holds Tryd.pinned (OpenSpec.ofChange tagRightSpec)

/-- ITS FALSE NEIGHBOUR: 'it returns false'. Refute it at one input. -/
def tagRightWrong : ChangeSpec := { name := "tagRight", fn := fun _ => fun
  | [d1, d2] => { results := [.lit (.bool false)], args := [d1, d2] }
  | _ => none }
def TagRightWrongFalsely : Prop := tagRightRow.holds Tryd.pinned (OpenSpec.ofChange tagRightWrong)

/-- 'mandolinelaw05.TagTexts': WHATEVER THE INPUT: true; the input reads as it did. -/
def tagTextsSpec : ChangeSpec := { name := "tagTexts", fn := fun _ => fun
  | [d1, d2, d3] => { results := [.lit (.bool true)], args := [d1, d2, d3] }
  | _ => none }
def tagTextsRow : OpenClaim := { program := "ytnipbhmacfnjfaadoor", sum := "2847194d636c1bc777609e7c598628e25470d97d8459f051c20f4f65d146a186", func := "mandoline/mandolinelaw05.TagTexts", spec := "tagTexts", inPlace := ["internal/bytealg.IndexByteString", "internal/bytealg.IndexString", "internal/abi.NoEscape"], named := ["unicode/utf8.first", "unicode/utf8.acceptRanges", "internal/bytealg.MaxLen"], apart := false, laid := [("unicode/utf8.acceptRanges", laid_unicode_utf8_acceptRanges), ("unicode/utf8.first", laid_unicode_utf8_first)] }
def TagTextsSaid : Prop := tagTextsRow.holds Tryd.pinned (OpenSpec.ofChange tagTextsSpec)

/-- ITS FALSE NEIGHBOUR: 'it returns false'. Refute it at one input. -/
def tagTextsWrong : ChangeSpec := { name := "tagTexts", fn := fun _ => fun
  | [d1, d2, d3] => { results := [.lit (.bool false)], args := [d1, d2, d3] }
  | _ => none }
def TagTextsWrongFalsely : Prop := tagTextsRow.holds Tryd.pinned (OpenSpec.ofChange tagTextsWrong)

/-- 'mandolinelaw05.TagLists': WHATEVER THE INPUT: true; the input reads as it did. -/
def tagListsSpec : ChangeSpec := { name := "tagLists", fn := fun _ => fun
  | [d] => { results := [.lit (.bool true)], args := [d] }
  | _ => none }
def tagListsRow : OpenClaim := { program := "ytnipbhmacfnjfaadoor", sum := "2847194d636c1bc777609e7c598628e25470d97d8459f051c20f4f65d146a186", func := "mandoline/mandolinelaw05.TagLists", spec := "tagLists", inPlace := ["internal/bytealg.IndexByteString", "internal/bytealg.IndexString", "internal/abi.NoEscape"], named := ["unicode/utf8.first", "unicode/utf8.acceptRanges", "internal/bytealg.MaxLen"], apart := false, laid := [("unicode/utf8.acceptRanges", laid_unicode_utf8_acceptRanges), ("unicode/utf8.first", laid_unicode_utf8_first)] }
def TagListsSaid : Prop := tagListsRow.holds Tryd.pinned (OpenSpec.ofChange tagListsSpec)

/-- ITS FALSE NEIGHBOUR: 'it returns false'. Refute it at one input. -/
def tagListsWrong : ChangeSpec := { name := "tagLists", fn := fun _ => fun
  | [d] => { results := [.lit (.bool false)], args := [d] }
  | _ => none }
def TagListsWrongFalsely : Prop := tagListsRow.holds Tryd.pinned (OpenSpec.ofChange tagListsWrong)

/-- 'mandolinelaw05.TagBack': WHATEVER THE INPUT: true; the input reads as it did. -/
def tagBackSpec : ChangeSpec := { name := "tagBack", fn := fun _ => fun
  | [d] => { results := [.lit (.bool true)], args := [d] }
  | _ => none }
def tagBackRow : OpenClaim := { program := "ytnipbhmacfnjfaadoor", sum := "2847194d636c1bc777609e7c598628e25470d97d8459f051c20f4f65d146a186", func := "mandoline/mandolinelaw05.TagBack", spec := "tagBack", inPlace := ["internal/bytealg.IndexByteString", "internal/bytealg.IndexString", "internal/abi.NoEscape"], named := ["unicode/utf8.first", "unicode/utf8.acceptRanges", "internal/bytealg.MaxLen"], apart := false, laid := [("unicode/utf8.acceptRanges", laid_unicode_utf8_acceptRanges), ("unicode/utf8.first", laid_unicode_utf8_first)] }
def TagBackSaid : Prop := tagBackRow.holds Tryd.pinned (OpenSpec.ofChange tagBackSpec)

/-- ITS FALSE NEIGHBOUR: 'it returns false'. Refute it at one input. -/
def tagBackWrong : ChangeSpec := { name := "tagBack", fn := fun _ => fun
  | [d] => { results := [.lit (.bool false)], args := [d] }
  | _ => none }
def TagBackWrongFalsely : Prop := tagBackRow.holds Tryd.pinned (OpenSpec.ofChange tagBackWrong)

/-- 'mandolinelaw05.TagSame': WHATEVER THE INPUT: true; the input reads as it did. -/
def tagSameSpec : ChangeSpec := { name := "tagSame", fn := fun _ => fun
  | [d1, d2] => { results := [.lit (.bool true)], args := [d1, d2] }
  | _ => none }
def tagSameRow : OpenClaim := { program := "ytnipbhmacfnjfaadoor", sum := "2847194d636c1bc777609e7c598628e25470d97d8459f051c20f4f65d146a186", func := "mandoline/mandolinelaw05.TagSame", spec := "tagSame", inPlace := ["internal/bytealg.IndexByteString", "internal/bytealg.IndexString", "internal/abi.NoEscape"], named := ["unicode/utf8.first", "unicode/utf8.acceptRanges", "internal/bytealg.MaxLen"], apart := false, laid := [("unicode/utf8.acceptRanges", laid_unicode_utf8_acceptRanges), ("unicode/utf8.first", laid_unicode_utf8_first)] }
def TagSameSaid : Prop := tagSameRow.holds Tryd.pinned (OpenSpec.ofChange tagSameSpec)

/-- ITS FALSE NEIGHBOUR: 'it returns false'. Refute it at one input. -/
def tagSameWrong : ChangeSpec := { name := "tagSame", fn := fun _ => fun
  | [d1, d2] => { results := [.lit (.bool false)], args := [d1, d2] }
  | _ => none }
def TagSameWrongFalsely : Prop := tagSameRow.holds Tryd.pinned (OpenSpec.ofChange tagSameWrong)

/-- 'mandolinelaw05.TagIn': WHATEVER THE INPUT: true; the input reads as it did. -/
def tagInSpec : ChangeSpec := { name := "tagIn", fn := fun _ => fun
  | [d1, d2, d3] => { results := [.lit (.bool true)], args := [d1, d2, d3] }
  | _ => none }
def tagInRow : OpenClaim := { program := "ytnipbhmacfnjfaadoor", sum := "2847194d636c1bc777609e7c598628e25470d97d8459f051c20f4f65d146a186", func := "mandoline/mandolinelaw05.TagIn", spec := "tagIn", inPlace := ["internal/bytealg.IndexByteString", "internal/bytealg.IndexString", "internal/abi.NoEscape"], named := ["unicode/utf8.first", "unicode/utf8.acceptRanges", "internal/bytealg.MaxLen"], apart := false, laid := [("unicode/utf8.acceptRanges", laid_unicode_utf8_acceptRanges), ("unicode/utf8.first", laid_unicode_utf8_first)] }
def TagInSaid : Prop := tagInRow.holds Tryd.pinned (OpenSpec.ofChange tagInSpec)

/-- ITS FALSE NEIGHBOUR: 'it returns false'. Refute it at one input. -/
def tagInWrong : ChangeSpec := { name := "tagIn", fn := fun _ => fun
  | [d1, d2, d3] => { results := [.lit (.bool false)], args := [d1, d2, d3] }
  | _ => none }
def TagInWrongFalsely : Prop := tagInRow.holds Tryd.pinned (OpenSpec.ofChange tagInWrong)

/-- 'mandolinelaw05.TagBlanks': WHATEVER THE INPUT: true; the input reads as it did. -/
def tagBlanksSpec : ChangeSpec := { name := "tagBlanks", fn := fun _ => fun
  | [d1, d2] => { results := [.lit (.bool true)], args := [d1, d2] }
  | _ => none }
def tagBlanksRow : OpenClaim := { program := "ytnipbhmacfnjfaadoor", sum := "2847194d636c1bc777609e7c598628e25470d97d8459f051c20f4f65d146a186", func := "mandoline/mandolinelaw05.TagBlanks", spec := "tagBlanks", inPlace := ["internal/bytealg.IndexByteString", "internal/bytealg.IndexString", "internal/abi.NoEscape"], named := ["unicode/utf8.first", "unicode/utf8.acceptRanges", "internal/bytealg.MaxLen"], apart := false, laid := [("unicode/utf8.acceptRanges", laid_unicode_utf8_acceptRanges), ("unicode/utf8.first", laid_unicode_utf8_first)] }
def TagBlanksSaid : Prop := tagBlanksRow.holds Tryd.pinned (OpenSpec.ofChange tagBlanksSpec)

/-- ITS FALSE NEIGHBOUR: 'it returns false'. Refute it at one input. -/
def tagBlanksWrong : ChangeSpec := { name := "tagBlanks", fn := fun _ => fun
  | [d1, d2] => { results := [.lit (.bool false)], args := [d1, d2] }
  | _ => none }
def TagBlanksWrongFalsely : Prop := tagBlanksRow.holds Tryd.pinned (OpenSpec.ofChange tagBlanksWrong)

/-- 'mandolinelaw08.CondParses': WHATEVER THE INPUT: true; the input reads as it did. -/
def condParsesSpec : ChangeSpec := { name := "condParses", fn := fun _ => fun
  | [d] => { results := [.lit (.bool true)], args := [d] }
  | _ => none }
def condParsesRow : OpenClaim := { program := "ytnipbhmacfnjfaadoor", sum := "2847194d636c1bc777609e7c598628e25470d97d8459f051c20f4f65d146a186", func := "mandoline/mandolinelaw08.CondParses", spec := "condParses", inPlace := ["internal/abi.NoEscape", "internal/bytealg.MakeNoZero", "internal/bytealg.IndexByteString", "internal/bytealg.IndexString"], named := ["unicode/utf8.first", "unicode/utf8.acceptRanges", "internal/bytealg.MaxLen"], apart := false, laid := [("unicode/utf8.acceptRanges", laid_unicode_utf8_acceptRanges), ("unicode/utf8.first", laid_unicode_utf8_first)] }
def CondParsesSaid : Prop := condParsesRow.holds Tryd.pinned (OpenSpec.ofChange condParsesSpec)

/-- ITS FALSE NEIGHBOUR: 'it returns false'. Refute it at one input. -/
def condParsesWrong : ChangeSpec := { name := "condParses", fn := fun _ => fun
  | [d] => { results := [.lit (.bool false)], args := [d] }
  | _ => none }
def CondParsesWrongFalsely : Prop := condParsesRow.holds Tryd.pinned (OpenSpec.ofChange condParsesWrong)

/-- 'mandolinelaw08.CondOther': WHATEVER THE INPUT: true; the input reads as it did. -/
def condOtherSpec : ChangeSpec := { name := "condOther", fn := fun _ => fun
  | [d1, d2, d3] => { results := [.lit (.bool true)], args := [d1, d2, d3] }
  | _ => none }
def condOtherRow : OpenClaim := { program := "ytnipbhmacfnjfaadoor", sum := "2847194d636c1bc777609e7c598628e25470d97d8459f051c20f4f65d146a186", func := "mandoline/mandolinelaw08.CondOther", spec := "condOther", inPlace := ["internal/abi.NoEscape", "internal/bytealg.MakeNoZero", "internal/bytealg.IndexByteString", "internal/bytealg.IndexString"], named := ["unicode/utf8.first", "unicode/utf8.acceptRanges", "internal/bytealg.MaxLen"], apart := false, laid := [("unicode/utf8.acceptRanges", laid_unicode_utf8_acceptRanges), ("unicode/utf8.first", laid_unicode_utf8_first)] }
def CondOtherSaid : Prop := condOtherRow.holds Tryd.pinned (OpenSpec.ofChange condOtherSpec)

/-- ITS FALSE NEIGHBOUR: 'it returns false'. Refute it at one input. -/
def condOtherWrong : ChangeSpec := { name := "condOther", fn := fun _ => fun
  | [d1, d2, d3] => { results := [.lit (.bool false)], args := [d1, d2, d3] }
  | _ => none }
def CondOtherWrongFalsely : Prop := condOtherRow.holds Tryd.pinned (OpenSpec.ofChange condOtherWrong)

/-- 'mandolinelaw08.CondFields': WHATEVER THE INPUT: true; the input reads as it did. -/
def condFieldsSpec : ChangeSpec := { name := "condFields", fn := fun _ => fun
  | [d] => { results := [.lit (.bool true)], args := [d] }
  | _ => none }
def condFieldsRow : OpenClaim := { program := "ytnipbhmacfnjfaadoor", sum := "2847194d636c1bc777609e7c598628e25470d97d8459f051c20f4f65d146a186", func := "mandoline/mandolinelaw08.CondFields", spec := "condFields", inPlace := ["internal/abi.NoEscape", "internal/bytealg.MakeNoZero", "internal/bytealg.IndexByteString", "internal/bytealg.IndexString"], unfollowed := true, recurses := true, named := ["unicode/utf8.first", "unicode/utf8.acceptRanges", "internal/bytealg.MaxLen"], apart := false, laid := [("unicode/utf8.acceptRanges", laid_unicode_utf8_acceptRanges), ("unicode/utf8.first", laid_unicode_utf8_first)] }
def CondFieldsSaid : Prop := condFieldsRow.holds Tryd.pinned (OpenSpec.ofChange condFieldsSpec)

/-- ITS FALSE NEIGHBOUR: 'it returns false'. Refute it at one input. -/
def condFieldsWrong : ChangeSpec := { name := "condFields", fn := fun _ => fun
  | [d] => { results := [.lit (.bool false)], args := [d] }
  | _ => none }
def CondFieldsWrongFalsely : Prop := condFieldsRow.holds Tryd.pinned (OpenSpec.ofChange condFieldsWrong)

/- THE SECOND FORM. 'bulk': how many values and letters a reading holds, each counted each time it is reached (what is shared counts as often as it is met; a slice's spare places count too). A statement '..UptoSaid' is the law's where the arguments, and the package variables that the reading takes, are together of bulk at most 1048576: NARROWER than '..Said'. Prove '..Said' where nothing that the law and all that it calls make is longer than what came in: it says more and counts as full. Else prove '..UptoSaid'. A law counts once. -/
mutual
def uptoBulk {H : Type} : DataW H → Nat
  | .lit (.string bytes) => bytes.length + 1
  | .lit _ => 1
  | .nil => 1
  | .ptr d => uptoBulk d + 1
  | .slice elems spare => uptoBulkAll elems + uptoBulkAll spare + 1
  | .agg parts => uptoBulkAll parts + 1
  | .iface _ d => uptoBulk d + 1
  | .map entries => uptoBulkEntries entries + 1
  | .held _ => 1
def uptoBulkAll {H : Type} : List (DataW H) → Nat
  | [] => 0
  | d :: r => uptoBulk d + uptoBulkAll r
def uptoBulkEntries {H : Type} : List (Lit × DataW H) → Nat
  | [] => 0
  | x :: r => uptoBulkEntry x + uptoBulkEntries r
def uptoBulkEntry {H : Type} : Lit × DataW H → Nat
  | (.string bytes, d) => bytes.length + uptoBulk d + 1
  | (_, d) => uptoBulk d + 1
 end
def uptoSmall : (H : Type) → List (DataW H) → Bool := fun _ ds => decide (uptoBulkAll ds ≤ 1048576)
def OpenSpec.upto (s : _root_.Go.ChangeSpec) : _root_.Go.OpenSpec := { _root_.Go.OpenSpec.ofChange s with cond := some uptoSmall }

/-- 'mandolinelaw05.TagRight', WHERE WHAT IT READS IS OF BULK AT MOST 1048576: true; the input reads as it did. -/
def tagRightUptoRow : OpenClaim := { program := "ytnipbhmacfnjfaadoor", sum := "2847194d636c1bc777609e7c598628e25470d97d8459f051c20f4f65d146a186", func := "mandoline/mandolinelaw05.TagRight", spec := "tagRight", inPlace := ["internal/bytealg.IndexByteString", "internal/bytealg.IndexString", "internal/abi.NoEscape"], named := ["unicode/utf8.first", "unicode/utf8.acceptRanges", "internal/bytealg.MaxLen"], apart := false, laid := [("unicode/utf8.acceptRanges", laid_unicode_utf8_acceptRanges), ("unicode/utf8.first", laid_unicode_utf8_first)], narrowed := true }
def TagRightUptoSaid : Prop := tagRightUptoRow.holds Tryd.pinned (OpenSpec.upto tagRightSpec)

/-- 'mandolinelaw05.TagTexts', WHERE WHAT IT READS IS OF BULK AT MOST 1048576: true; the input reads as it did. -/
def tagTextsUptoRow : OpenClaim := { program := "ytnipbhmacfnjfaadoor", sum := "2847194d636c1bc777609e7c598628e25470d97d8459f051c20f4f65d146a186", func := "mandoline/mandolinelaw05.TagTexts", spec := "tagTexts", inPlace := ["internal/bytealg.IndexByteString", "internal/bytealg.IndexString", "internal/abi.NoEscape"], named := ["unicode/utf8.first", "unicode/utf8.acceptRanges", "internal/bytealg.MaxLen"], apart := false, laid := [("unicode/utf8.acceptRanges", laid_unicode_utf8_acceptRanges), ("unicode/utf8.first", laid_unicode_utf8_first)], narrowed := true }
def TagTextsUptoSaid : Prop := tagTextsUptoRow.holds Tryd.pinned (OpenSpec.upto tagTextsSpec)

/-- 'mandolinelaw05.TagLists', WHERE WHAT IT READS IS OF BULK AT MOST 1048576: true; the input reads as it did. -/
def tagListsUptoRow : OpenClaim := { program := "ytnipbhmacfnjfaadoor", sum := "2847194d636c1bc777609e7c598628e25470d97d8459f051c20f4f65d146a186", func := "mandoline/mandolinelaw05.TagLists", spec := "tagLists", inPlace := ["internal/bytealg.IndexByteString", "internal/bytealg.IndexString", "internal/abi.NoEscape"], named := ["unicode/utf8.first", "unicode/utf8.acceptRanges", "internal/bytealg.MaxLen"], apart := false, laid := [("unicode/utf8.acceptRanges", laid_unicode_utf8_acceptRanges), ("unicode/utf8.first", laid_unicode_utf8_first)], narrowed := true }
def TagListsUptoSaid : Prop := tagListsUptoRow.holds Tryd.pinned (OpenSpec.upto tagListsSpec)

/-- 'mandolinelaw05.TagBack', WHERE WHAT IT READS IS OF BULK AT MOST 1048576: true; the input reads as it did. -/
def tagBackUptoRow : OpenClaim := { program := "ytnipbhmacfnjfaadoor", sum := "2847194d636c1bc777609e7c598628e25470d97d8459f051c20f4f65d146a186", func := "mandoline/mandolinelaw05.TagBack", spec := "tagBack", inPlace := ["internal/bytealg.IndexByteString", "internal/bytealg.IndexString", "internal/abi.NoEscape"], named := ["unicode/utf8.first", "unicode/utf8.acceptRanges", "internal/bytealg.MaxLen"], apart := false, laid := [("unicode/utf8.acceptRanges", laid_unicode_utf8_acceptRanges), ("unicode/utf8.first", laid_unicode_utf8_first)], narrowed := true }
def TagBackUptoSaid : Prop := tagBackUptoRow.holds Tryd.pinned (OpenSpec.upto tagBackSpec)

/-- 'mandolinelaw05.TagSame', WHERE WHAT IT READS IS OF BULK AT MOST 1048576: true; the input reads as it did. -/
def tagSameUptoRow : OpenClaim := { program := "ytnipbhmacfnjfaadoor", sum := "2847194d636c1bc777609e7c598628e25470d97d8459f051c20f4f65d146a186", func := "mandoline/mandolinelaw05.TagSame", spec := "tagSame", inPlace := ["internal/bytealg.IndexByteString", "internal/bytealg.IndexString", "internal/abi.NoEscape"], named := ["unicode/utf8.first", "unicode/utf8.acceptRanges", "internal/bytealg.MaxLen"], apart := false, laid := [("unicode/utf8.acceptRanges", laid_unicode_utf8_acceptRanges), ("unicode/utf8.first", laid_unicode_utf8_first)], narrowed := true }
def TagSameUptoSaid : Prop := tagSameUptoRow.holds Tryd.pinned (OpenSpec.upto tagSameSpec)

/-- 'mandolinelaw05.TagIn', WHERE WHAT IT READS IS OF BULK AT MOST 1048576: true; the input reads as it did. -/
def tagInUptoRow : OpenClaim := { program := "ytnipbhmacfnjfaadoor", sum := "2847194d636c1bc777609e7c598628e25470d97d8459f051c20f4f65d146a186", func := "mandoline/mandolinelaw05.TagIn", spec := "tagIn", inPlace := ["internal/bytealg.IndexByteString", "internal/bytealg.IndexString", "internal/abi.NoEscape"], named := ["unicode/utf8.first", "unicode/utf8.acceptRanges", "internal/bytealg.MaxLen"], apart := false, laid := [("unicode/utf8.acceptRanges", laid_unicode_utf8_acceptRanges), ("unicode/utf8.first", laid_unicode_utf8_first)], narrowed := true }
def TagInUptoSaid : Prop := tagInUptoRow.holds Tryd.pinned (OpenSpec.upto tagInSpec)

/-- 'mandolinelaw05.TagBlanks', WHERE WHAT IT READS IS OF BULK AT MOST 1048576: true; the input reads as it did. -/
def tagBlanksUptoRow : OpenClaim := { program := "ytnipbhmacfnjfaadoor", sum := "2847194d636c1bc777609e7c598628e25470d97d8459f051c20f4f65d146a186", func := "mandoline/mandolinelaw05.TagBlanks", spec := "tagBlanks", inPlace := ["internal/bytealg.IndexByteString", "internal/bytealg.IndexString", "internal/abi.NoEscape"], named := ["unicode/utf8.first", "unicode/utf8.acceptRanges", "internal/bytealg.MaxLen"], apart := false, laid := [("unicode/utf8.acceptRanges", laid_unicode_utf8_acceptRanges), ("unicode/utf8.first", laid_unicode_utf8_first)], narrowed := true }
def TagBlanksUptoSaid : Prop := tagBlanksUptoRow.holds Tryd.pinned (OpenSpec.upto tagBlanksSpec)

/-- 'mandolinelaw08.CondParses', WHERE WHAT IT READS IS OF BULK AT MOST 1048576: true; the input reads as it did. -/
def condParsesUptoRow : OpenClaim := { program := "ytnipbhmacfnjfaadoor", sum := "2847194d636c1bc777609e7c598628e25470d97d8459f051c20f4f65d146a186", func := "mandoline/mandolinelaw08.CondParses", spec := "condParses", inPlace := ["internal/abi.NoEscape", "internal/bytealg.MakeNoZero", "internal/bytealg.IndexByteString", "internal/bytealg.IndexString"], named := ["unicode/utf8.first", "unicode/utf8.acceptRanges", "internal/bytealg.MaxLen"], apart := false, laid := [("unicode/utf8.acceptRanges", laid_unicode_utf8_acceptRanges), ("unicode/utf8.first", laid_unicode_utf8_first)], narrowed := true }
def CondParsesUptoSaid : Prop := condParsesUptoRow.holds Tryd.pinned (OpenSpec.upto condParsesSpec)

/-- 'mandolinelaw08.CondOther', WHERE WHAT IT READS IS OF BULK AT MOST 1048576: true; the input reads as it did. -/
def condOtherUptoRow : OpenClaim := { program := "ytnipbhmacfnjfaadoor", sum := "2847194d636c1bc777609e7c598628e25470d97d8459f051c20f4f65d146a186", func := "mandoline/mandolinelaw08.CondOther", spec := "condOther", inPlace := ["internal/abi.NoEscape", "internal/bytealg.MakeNoZero", "internal/bytealg.IndexByteString", "internal/bytealg.IndexString"], named := ["unicode/utf8.first", "unicode/utf8.acceptRanges", "internal/bytealg.MaxLen"], apart := false, laid := [("unicode/utf8.acceptRanges", laid_unicode_utf8_acceptRanges), ("unicode/utf8.first", laid_unicode_utf8_first)], narrowed := true }
def CondOtherUptoSaid : Prop := condOtherUptoRow.holds Tryd.pinned (OpenSpec.upto condOtherSpec)

/-- 'mandolinelaw08.CondFields', WHERE WHAT IT READS IS OF BULK AT MOST 1048576: true; the input reads as it did. -/
def condFieldsUptoRow : OpenClaim := { program := "ytnipbhmacfnjfaadoor", sum := "2847194d636c1bc777609e7c598628e25470d97d8459f051c20f4f65d146a186", func := "mandoline/mandolinelaw08.CondFields", spec := "condFields", inPlace := ["internal/abi.NoEscape", "internal/bytealg.MakeNoZero", "internal/bytealg.IndexByteString", "internal/bytealg.IndexString"], unfollowed := true, recurses := true, named := ["unicode/utf8.first", "unicode/utf8.acceptRanges", "internal/bytealg.MaxLen"], apart := false, laid := [("unicode/utf8.acceptRanges", laid_unicode_utf8_acceptRanges), ("unicode/utf8.first", laid_unicode_utf8_first)], narrowed := true }
def CondFieldsUptoSaid : Prop := condFieldsUptoRow.holds Tryd.pinned (OpenSpec.upto condFieldsSpec)

end Rows
end Go.Proofs.YtnipbhmacfnjfaaDoor
