/-
  What a reader of a chunked body tells, piece by piece and at once: plain laws.
-/
import Derived.Test.YteebpclbpclhaaaDoorChkM
namespace Go.Proofs.YteebpclbpclhaaaDoor
set_option linter.unusedVariables false
set_option linter.unusedSimpArgs false
theorem dec_self (l : List UInt8) : decide (l = l) = true := by simp
theorem takeM_nine {x : Rs} (h : x.at_ = 9) (b : List UInt8) : takeM x b = (0, x, [], true) := by
  cases b <;> simp [takeM, h]
theorem takeM_app : ∀ (a b : List UInt8) (x : Rs), takeM x (a ++ b) =
    if (takeM x a).2.2.2 = true then ((takeM x a).1 + (takeM (takeM x a).2.1 b).1, (takeM (takeM x a).2.1 b).2.1, (takeM x a).2.2.1 ++ (takeM (takeM x a).2.1 b).2.2.1, (takeM (takeM x a).2.1 b).2.2.2) else takeM x a
  | [], b, x => by simp [takeM]
  | c :: cs, b, x => by
    by_cases h9 : x.at_ = 9
    · rw [takeM_nine h9, takeM_nine h9, if_pos rfl]
      simp only
      rw [takeM_nine h9]
      rfl
    · cases hs : stepM x c.toNat with
      | none => simp [takeM, h9, hs]
      | some p =>
        obtain ⟨y, d⟩ := p
        have ih := takeM_app cs b y
        simp only [List.cons_append, takeM, if_neg h9, hs]
        rw [ih]
        by_cases hk : (takeM y cs).2.2.2 = true
        · rw [if_pos hk, if_pos hk]
          cases d <;> simp [Nat.add_right_comm]
        · rw [if_neg hk, if_neg hk]
theorem inv_take : ∀ (a : List UInt8) {x : Rs}, Inv x → Inv (takeM x a).2.1
  | [], x, h => h
  | c :: cs, x, h => by
    by_cases h9 : x.at_ = 9
    · rw [takeM_nine h9]; exact h
    · cases hs : stepM x c.toNat with
      | none => simp [takeM, h9, hs]; exact h
      | some p =>
        obtain ⟨y, d⟩ := p
        simp only [takeM, if_neg h9, hs]
        exact inv_take cs (h.step hs)
theorem takeM_len : ∀ (a : List UInt8) (x : Rs), (takeM x a).2.2.1.length ≤ a.length ∧ (takeM x a).1 ≤ a.length
  | [], x => by simp [takeM]
  | c :: cs, x => by
    by_cases h9 : x.at_ = 9
    · rw [takeM_nine h9]; simp
    · cases hs : stepM x c.toNat with
      | none => simp [takeM, h9, hs]
      | some p =>
        obtain ⟨y, d⟩ := p
        have ih := takeM_len cs y
        simp only [takeM, if_neg h9, hs]
        cases d <;> simp <;> omega
end Go.Proofs.YteebpclbpclhaaaDoor
