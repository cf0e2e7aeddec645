/-
  Without blanks: the reference's walk.
-/
import Derived.Test.YtlfldnogjndglaaDoorStrL
import Derived.Lib.IndexBytes
import Derived.Test.YtlfldnogjndglaaDoorGrTb
import Derived.Outline
import Derived.Deep.DeepCutAuto
namespace Go.Proofs.YtlfldnogjndglaaDoor
open Go.RowKit
set_option linter.unusedVariables false
set_option linter.unusedSimpArgs false

theorem trim_tail {u : ByteArray} (h : 0 < u.size) (hb : blankB u[0] = true) : trimB (u.extract 1 u.size).data.toList = trimB u.data.toList := by
  have e : u.data.toList = [u[0]] ++ (u.extract 1 u.size).data.toList := by
    rw [Lib.extract_to_end]
    have hl : u.data.toList.length = u.size := lsize u
    cases hu : u.data.toList with
    | nil => rw [hu] at hl; simp at hl; omega
    | cons a l =>
      have := head_at h
      rw [hu] at this
      injection this with this
      rw [← this]; rfl
  rw [e, trim_pre (by simpa using hb)]
theorem trim_init {u : ByteArray} (h : u.size - 1 < u.size) (hb : blankB (u[u.size - 1]'h) = true) : trimB (u.extract 0 (u.size - 1)).data.toList = trimB u.data.toList := by
  have e : u.data.toList = (u.extract 0 (u.size - 1)).data.toList ++ [u[u.size - 1]'h] := by
    have hl := last_at h
    have hne : u.data.toList ≠ [] := fun e => by rw [e] at hl; cases hl
    have e1 : (u.extract 0 (u.size - 1)).data.toList = u.data.toList.dropLast := by
      rw [Lib.extract_data, List.drop_zero, List.dropLast_eq_take, lsize]; rfl
    rw [List.getLast?_eq_some_getLast hne] at hl
    injection hl with hl
    rw [e1, ← hl, List.dropLast_concat_getLast]
  rw [e, trim_post (by simpa using hb)]
theorem head_init {u : ByteArray} (h : 0 < u.size) (h' : 0 < (u.extract 0 (u.size - 1)).size) : (u.extract 0 (u.size - 1))[0]'h' = u[0]'h := by
  have a := head_at h'
  have b := head_at h
  have h2 : 0 < u.size - 1 := by simpa using h'
  rw [Lib.extract_data, List.drop_zero] at a
  generalize u.data.toList = l at a b
  cases l with
  | nil => cases b
  | cons c l =>
    obtain ⟨k, hk⟩ : ∃ k, u.size - 1 - 0 = k + 1 := ⟨u.size - 1 - 1, by omega⟩
    rw [hk, List.take_succ_cons] at a
    injection a with a
    injection b with b
    rw [← a, ← b]
theorem trim_end {u : ByteArray} (h1 : ∀ h : 0 < u.size, blankB (u[0]'h) = false) (h2 : ∀ h : u.size - 1 < u.size, blankB (u[u.size - 1]'h) = false) : trimB u.data.toList = u.data.toList := by
  refine trim_core ⟨fun b hb => ?_, fun b hb => ?_⟩
  · by_cases h : 0 < u.size
    · rw [head_at h] at hb; injection hb with hb; rw [← hb]; exact h1 h
    · have : u.data.toList = [] := List.eq_nil_of_length_eq_zero (by rw [lsize]; omega)
      rw [this] at hb; cases hb
  · by_cases h : u.size - 1 < u.size
    · rw [last_at h] at hb; injection hb with hb; rw [← hb]; exact h2 h
    · have : u.data.toList = [] := List.eq_nil_of_length_eq_zero (by rw [lsize]; omega)
      rw [this] at hb; cases hb
def TrimR (s u : ByteArray) : Prop := trimB u.data.toList = trimB s.data.toList ∧ u.size ≤ s.size
def TrimS (s u : ByteArray) : Prop := TrimR s u ∧ ∀ h : 0 < u.size, blankB (u[0]'h) = false

def StrAt (l : Bs) (w : World) (e : Ending) (w' : World) : Prop := ∃ t : ByteArray, t.data.toList = l ∧ e = .returned (.string t) ∧ w = w'
end Go.Proofs.YtlfldnogjndglaaDoor
