/-
  Fields in a slice.
-/
import Derived.Test.YtkmheoolekookaaDoorOwnL
import Derived.Test.YtkmheoolekookaaDoorWList
import Derived.Test.YtkmheoolekookaaDoorStrL
namespace Go.Proofs.YtkmheoolekookaaDoor
open Go.RowKit
set_option linter.unusedVariables false
set_option linter.unusedSimpArgs false

abbrev FieldL := List UInt8 × List UInt8
/-- A slice of fields. -/
def LF : Lay FieldL where
  t := 22
  e := 36
  n := 2
  bytes := 32
  enc f := [.string ⟨f.1.toArray⟩, .string ⟨f.2.toArray⟩]
  len _ := rfl
  one _ u hu := by simp at hu; rcases hu with rfl | rfl <;> rfl
  pos := by decide
  z := .agg #[.string ⟨#[]⟩, .string ⟨#[]⟩]
  ht := Tryd.underlying22
  info := by kernel_rfl
  zs := rfl
theorem LFenc (a b : List UInt8) : LF.enc (a, b) = [.string ⟨a.toArray⟩, .string ⟨b.toArray⟩] := rfl
/-- The cells of a field that is read at a place. -/
theorem RdL.field {w : World} {B n c : Nat} {A : Option Addr} {l : List FieldL} (h : RdL LF w B (.slice A n c) l) (i : Nat) (hi : i < l.length) : ∃ b off, A = some ⟨b, off, none⟩ ∧ b < B ∧ w.cell? ⟨b, off + i * 2, none⟩ = some (.string ⟨l[i].1.toArray⟩) ∧ w.cell? ⟨b, off + i * 2 + 1, none⟩ = some (.string ⟨l[i].2.toArray⟩) := by
  obtain ⟨b, off, e, hlt, hc⟩ := h.at_ i hi
  exact ⟨b, off, e, hlt, by simpa [LF] using hc 0 _ rfl, by simpa [LF] using hc 1 _ rfl⟩
/-- A text of a list of texts, at a place. -/
theorem RdL.text {w : World} {B n c : Nat} {A : Option Addr} {l : List Bs} (h : RdL LW w B (.slice A n c) l) (i : Nat) (hi : i < l.length) : ∃ b off, A = some ⟨b, off, none⟩ ∧ b < B ∧ w.cell? ⟨b, off + i, none⟩ = some (.string ⟨l[i].toArray⟩) := by
  obtain ⟨b, off, e, hlt, hc⟩ := h.at_ i hi
  exact ⟨b, off, e, hlt, by simpa [LW] using hc 0 _ rfl⟩

end Go.Proofs.YtkmheoolekookaaDoor
