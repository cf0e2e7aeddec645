/-
  The rule of values: the reference's walk.
-/
import Derived.Test.YtlfldnogjndglaaDoorRcpD
import Derived.Test.YtlfldnogjndglaaDoorRcpE
namespace Go.Proofs.YtlfldnogjndglaaDoor
open Go.RowKit
set_option linter.unusedVariables false
set_option linter.unusedSimpArgs false

theorem say_parts2 (r : RuleM) (l : Bs) : sayV r l = (partsV l).foldl heedV r := by
  unfold sayV ruleOf partsV; rw [List.foldl_map]
theorem own_set {α : Type} {L : Lay α} {B k i : Nat} {w : World} {v : Value} {l : List α} (h : OwnL L B w v l) (hk : k < B) (u : Value) : OwnL L B (w.setCell ⟨k, i, none⟩ u) v l :=
  h.far (fun e => by have := (h.lt k e).1; omega) u
theorem set7 {w : World} {g : Nat} {t : TypeId} {a0 a1 a2 a3 a4 a5 a6 : Value} (h : Blk w g t #[a0, a1, a2, a3, a4, a5, a6]) (b0 b1 b2 b3 b4 b5 b6 : Value) :
    Blk (((((((w.setCell ⟨g, 0, none⟩ b0).setCell ⟨g, 1, none⟩ b1).setCell ⟨g, 2, none⟩ b2).setCell ⟨g, 3, none⟩ b3).setCell ⟨g, 4, none⟩ b4).setCell ⟨g, 5, none⟩ b5).setCell ⟨g, 6, none⟩ b6) g t #[b0, b1, b2, b3, b4, b5, b6] := by
  have := ((((((h.set_ 0 b0).set_ 1 b1).set_ 2 b2).set_ 3 b3).set_ 4 b4).set_ 5 b5).set_ 6 b6
  simpa using this
theorem belowD {wr w' : World} (h : Below wr.drew.heap.size wr.drew w') : Below wr.heap.size wr w' := (Below.refl _ _).drew.trans h

end Go.Proofs.YtlfldnogjndglaaDoor
