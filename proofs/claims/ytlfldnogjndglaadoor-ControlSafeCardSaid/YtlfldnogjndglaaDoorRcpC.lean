/-
  Without blanks: the reference's walk of layer 9.
-/
import Derived.Test.YtlfldnogjndglaaDoorTagQ
import Derived.Test.YtlfldnogjndglaaDoorRcpB
namespace Go.Proofs.YtlfldnogjndglaaDoor
open Go.RowKit
set_option linter.unusedVariables false
set_option linter.unusedSimpArgs false

theorem blank_ints {b : UInt8} (h : blankB b = false) : ((b.toNat : Int) == 32) = false ∧ ((b.toNat : Int) == 9) = false := by
  unfold blankB at h
  rw [Bool.or_eq_false_iff] at h
  refine ⟨?_, ?_⟩
  · rw [beq_eq_false_iff_ne]; intro e
    have : b = 32 := UInt8.toNat_inj.1 (by have : (32 : UInt8).toNat = 32 := rfl; omega)
    rw [this] at h; exact absurd h.1 (by decide)
  · rw [beq_eq_false_iff_ne]; intro e
    have : b = 9 := UInt8.toNat_inj.1 (by have : (9 : UInt8).toNat = 9 := rfl; omega)
    rw [this] at h; exact absurd h.2 (by decide)
theorem blank_yes {b : UInt8} (h : blankB b = true) : ((b.toNat : Int) == 32) = true ∨ (((b.toNat : Int) == 32) = false ∧ ((b.toNat : Int) == 9) = true) := by
  unfold blankB at h
  rw [Bool.or_eq_true, beq_iff_eq, beq_iff_eq] at h
  rcases h with rfl | rfl
  · left; rfl
  · right; exact ⟨rfl, rfl⟩

end Go.Proofs.YtlfldnogjndglaaDoor
