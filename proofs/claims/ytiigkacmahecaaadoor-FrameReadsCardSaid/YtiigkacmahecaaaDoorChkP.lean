/-
  The reference's reader of a chunked body: a step, from wherever.
-/
import Derived.Test.YtiigkacmahecaaaDoorChkF
import Derived.Test.YtiigkacmahecaaaDoorChkO
namespace Go.Proofs.YtiigkacmahecaaaDoor
open Go.RowKit
set_option linter.unusedVariables false
set_option linter.unusedSimpArgs false

theorem runM_snocd {x y z : Rs} {bs oo : List UInt8} {k : Nat} {d : Bool} (hk : k < bs.length) (h : runM x (bs.take k) = some (y, oo)) (hs : stepM y bs[k].toNat = some (z, d)) : runM x (bs.take (k + 1)) = some (z, if d = true then oo ++ [bs[k]] else oo) := by
  rw [List.take_succ_eq_append_getElem hk, runM_append, h]
  simp only [runM_one, hs]
  cases d <;> simp
theorem rstep_any {x : Rs} {cs : Array Value} (I : Inv x) (h9 : x.at_ ≠ 9) (hc : RelC x cs) (n : Nat) (hn : n ≤ 255) (w : World) : Calls Tryd.prog 64 #[.agg cs, .int .u8 (n : Int)] w (RStep (stepM x n) w) := by
  obtain ⟨l, h0, h1, h2, rfl⟩ := hc
  obtain ⟨a, sz, dg, lg, tr⟩ := x
  have ha : a = 0 ∨ a = 1 ∨ a = 2 ∨ a = 3 ∨ a = 4 ∨ a = 5 ∨ a = 6 ∨ a = 7 ∨ a = 8 := by
    have := I.at_
    simp only at this h9
    omega
  simp only at h2 ⊢
  rcases ha with rfl | rfl | rfl | rfl | rfl | rfl | rfl | rfl | rfl
  · have e := h2 (.inl (by simp))
    subst e
    have hlo := I.low rfl
    simp only at hlo
    subst hlo
    by_cases h13 : n = 13
    · subst h13; exact rstep_0a sz lg tr w I
    · cases hd : digV n with
      | none =>
        by_cases h59 : n = 59
        · subst h59
          by_cases hz : lg = 0
          · exact rstep_0f sz lg tr w I hz
          · exact rstep_0b sz lg tr w I hz
        · exact rstep_0e sz lg tr n w I hn h13 h59 hd
      | some d =>
        have h59 : n ≠ 59 := by rintro rfl; simp [digV] at hd
        by_cases h15 : lg = 15
        · exact rstep_0d sz lg tr n d w I hn h13 h59 hd h15
        · exact rstep_0c sz lg tr n d w I hn h13 h59 hd h15
  · have e := h2 (.inl (by simp)); subst e; exact rstep_1 sz dg lg tr n w I hn
  · have e := h2 (.inl (by simp)); subst e; exact rstep_2 sz dg lg tr n w I hn
  · have e := h2 (.inl (by simp)); subst e; exact rstep_3 sz dg lg tr n w I hn
  · have e := h2 (.inl (by simp)); subst e; exact rstep_4 sz dg lg tr n w I hn
  · have e := h2 (.inl (by simp)); subst e; exact rstep_5 sz dg lg tr n w I hn
  · by_cases hlz : lg = 0
    · subst hlz; exact rstep_6 sz dg tr n l w I h0 h1 hn
    · have e := h2 (.inr hlz)
      subst e
      have e2 : stN ⟨6, sz, dg, lg, tr⟩ = 7 := by simp [stN, hlz]
      rw [e2]
      exact rstep_6b sz dg lg tr n w I hlz hn
  · exact rstep_7 sz dg lg tr n l w I h0 h1 hn
  · exact rstep_8 sz dg lg tr n l w I h0 h1 hn

end Go.Proofs.YtiigkacmahecaaaDoor
