/-
  Spans that may be; whether a tag is: the program's functions and the reference's.
-/
import Derived.Test.YtmelcndflllgmaaDoorStrB
import Derived.Deep.QuietTactic
namespace Go.Proofs.YtmelcndflllgmaaDoor
open Go.RowKit
set_option linter.unusedVariables false
set_option linter.unusedSimpArgs false

def someTag (r : Tag) : Bool := !(r.1.toList == []) || r.2
theorem empty_no {s : ByteArray} (h : ¬ s = ⟨#[]⟩) : (s.toList == []) = false := by
  rw [ByteArray.toList_eq]
  simp only [beq_eq_false_iff_ne, ne_eq]
  exact fun e => h (by apply ByteArray.ext; exact Array.toList_inj.1 e)
theorem empty_no' {s : ByteArray} (h : ¬ s = ⟨#[]⟩) : s.toList.isEmpty = false := by
  have := empty_no h
  cases hl : s.toList with
  | nil => rw [hl] at this; simp at this
  | cons a l => rfl
theorem some_zero : someTag (⟨#[]⟩, false) = false := by simp [someTag, ByteArray.toList_eq]
theorem some_weak (s : ByteArray) : someTag (s, true) = true := by simp [someTag]
theorem some_text {s : ByteArray} {b : Bool} (h : ¬ s = ⟨#[]⟩) : someTag (s, b) = true := by simp [someTag, empty_no h]

def strictB (t : Tag) : Bool := !someTag t || (tagOk t.1 && !t.2)
def spanOk (a b : Int) : Bool := decide (0 ≤ a ∧ a ≤ b ∧ b ≤ 4611686018427387904)
def tickOk (n : Int) : Bool := decide (0 ≤ n ∧ n ≤ 1099511627776)

def IntAt (v : Int) (w : World) (e : Ending) (w' : World) : Prop := e = .returned (.int .i64 v) ∧ w = w'
end Go.Proofs.YtmelcndflllgmaaDoor
