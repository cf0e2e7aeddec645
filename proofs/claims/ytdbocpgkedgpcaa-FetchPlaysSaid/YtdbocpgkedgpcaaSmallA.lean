/-
  Spans that may be; whether a tag is: the program's functions and the reference's.
-/
import Derived.Test.YtdbocpgkedgpcaaStrB
import Derived.Deep.QuietTactic
namespace Go.Proofs.Ytdbocpgkedgpcaa
open Go.RowKit
set_option linter.unusedVariables false
set_option linter.unusedSimpArgs false

def someTag (r : Tag) : Bool := !(r.1.toList == []) || r.2
theorem empty_no {s : ByteArray} (h : ¬ s = ⟨#[]⟩) : (s.toList == []) = false := by
  rw [ByteArray.toList_eq]
  simp only [beq_eq_false_iff_ne, ne_eq]
  exact fun e => h (by apply ByteArray.ext; exact Array.toList_inj.1 e)
theorem empty_no' {s : ByteArray} (h : ¬ s = ⟨#[]⟩) : s.toList.isEmpty = false := by
  have := empty_no h
  cases hl : s.toList with
  | nil => rw [hl] at this; simp at this
  | cons a l => rfl
theorem some_zero : someTag (⟨#[]⟩, false) = false := by simp [someTag, ByteArray.toList_eq]
theorem some_weak (s : ByteArray) : someTag (s, true) = true := by simp [someTag]
theorem some_text {s : ByteArray} {b : Bool} (h : ¬ s = ⟨#[]⟩) : someTag (s, b) = true := by simp [someTag, empty_no h]

def strictB (t : Tag) : Bool := !someTag t || (tagOk t.1 && !t.2)
def spanOk (a b : Int) : Bool := decide (0 ≤ a ∧ a ≤ b ∧ b ≤ 4611686018427387904)
def tickOk (n : Int) : Bool := decide (0 ≤ n ∧ n ≤ 1099511627776)

set_option maxHeartbeats 1000000 in
theorem span_right (a b : Int) (w : World) : Calls Try.prog 29 #[.agg #[.int .i64 a, .int .i64 b]] w (BoolOk (spanOk a b) w) := by
  by_cases h1 : 0 ≤ a
  · by_cases h2 : a ≤ b
    · by_cases h3 : b ≤ 4611686018427387904
      · have hx := hide (show spanOk a b = true by unfold spanOk; simp; omega)
        have d1 : decide (0 ≤ a) = true := by simpa using h1
        have d2 : decide (a ≤ b) = true := by simpa using h2
        have d3 : decide (b ≤ 4611686018427387904) = true := by simpa using h3
        go_enter Try.func29, Try.ntmps29
        go_wp2
        go_ret
        exact ⟨ret_bool hx.out.symm, (Below.refl _ _).alloc (Nat.le_refl _) _⟩
      · have hx := hide (show spanOk a b = false by unfold spanOk; simp; omega)
        have d1 : decide (0 ≤ a) = true := by simpa using h1
        have d2 : decide (a ≤ b) = true := by simpa using h2
        have d3 : decide (b ≤ 4611686018427387904) = false := by simpa using h3
        go_enter Try.func29, Try.ntmps29
        go_wp2
        go_ret
        exact ⟨ret_bool hx.out.symm, (Below.refl _ _).alloc (Nat.le_refl _) _⟩
    · have hx := hide (show spanOk a b = false by unfold spanOk; simp; omega)
      have d1 : decide (0 ≤ a) = true := by simpa using h1
      have d2 : decide (a ≤ b) = false := by simpa using h2
      go_enter Try.func29, Try.ntmps29
      go_wp2
      go_ret
      exact ⟨ret_bool hx.out.symm, (Below.refl _ _).alloc (Nat.le_refl _) _⟩
  · have hx := hide (show spanOk a b = false by unfold spanOk; simp; omega)
    have d1 : decide (0 ≤ a) = false := by simpa using h1
    go_enter Try.func29, Try.ntmps29
    go_wp2
    go_ret
    exact ⟨ret_bool hx.out.symm, (Below.refl _ _).alloc (Nat.le_refl _) _⟩

def IntAt (v : Int) (w : World) (e : Ending) (w' : World) : Prop := e = .returned (.int .i64 v) ∧ w = w'
set_option maxHeartbeats 400000 in
theorem end_any (w : World) : Calls Try.prog 43 #[] w (IntAt 4611686018427387904 w) := by
  go_enter Try.func43, Try.ntmps43
  go_wp2
  go_ret
  exact ⟨rfl, rfl⟩

set_option maxHeartbeats 1000000 in
theorem rspan_right (a b : Int) (w : World) : Calls Try.prog 33 #[.agg #[.int .i64 a, .int .i64 b]] w (BoolOk (spanOk a b) w) := by
  by_cases h1 : 0 ≤ a
  · by_cases h2 : a ≤ b
    · by_cases h3 : b ≤ 4611686018427387904
      · have hx := hide (show spanOk a b = true by unfold spanOk; simp; omega)
        have d1 : decide (0 ≤ a) = true := by simpa using h1
        have d2 : decide (a ≤ b) = true := by simpa using h2
        have d3 : decide (b ≤ 4611686018427387904) = true := by simpa using h3
        go_enter Try.func33, Try.ntmps33
        go_wp2_with fail
        go_quiet ((go_at_call 43; first | exact quiet_left (end_any _) | exact quiet_add_left (end_any _)))
        go_wp2
        go_ret
        exact ⟨ret_bool hx.out.symm, below_drewN ((Below.refl _ _).alloc (Nat.le_refl _) _) _⟩
      · have hx := hide (show spanOk a b = false by unfold spanOk; simp; omega)
        have d1 : decide (0 ≤ a) = true := by simpa using h1
        have d2 : decide (a ≤ b) = true := by simpa using h2
        have d3 : decide (b ≤ 4611686018427387904) = false := by simpa using h3
        go_enter Try.func33, Try.ntmps33
        go_wp2_with fail
        go_quiet ((go_at_call 43; first | exact quiet_left (end_any _) | exact quiet_add_left (end_any _)))
        go_wp2
        go_ret
        exact ⟨ret_bool hx.out.symm, below_drewN ((Below.refl _ _).alloc (Nat.le_refl _) _) _⟩
    · have hx := hide (show spanOk a b = false by unfold spanOk; simp; omega)
      have d1 : decide (0 ≤ a) = true := by simpa using h1
      have d2 : decide (a ≤ b) = false := by simpa using h2
      go_enter Try.func33, Try.ntmps33
      go_wp2_with fail
      go_quiet ((go_at_call 43; first | exact quiet_left (end_any _) | exact quiet_add_left (end_any _)))
      go_wp2
      go_ret
      exact ⟨ret_bool hx.out.symm, below_drewN ((Below.refl _ _).alloc (Nat.le_refl _) _) _⟩
  · have hx := hide (show spanOk a b = false by unfold spanOk; simp; omega)
    have d1 : decide (0 ≤ a) = false := by simpa using h1
    go_enter Try.func33, Try.ntmps33
    go_wp2_with fail
    go_quiet ((go_at_call 43; first | exact quiet_left (end_any _) | exact quiet_add_left (end_any _)))
    go_wp2
    go_ret
    exact ⟨ret_bool hx.out.symm, below_drewN ((Below.refl _ _).alloc (Nat.le_refl _) _) _⟩

end Go.Proofs.Ytdbocpgkedgpcaa
