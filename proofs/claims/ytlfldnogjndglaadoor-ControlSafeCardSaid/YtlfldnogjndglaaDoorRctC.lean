/-
  A rule's text: the reference's walk.
-/
import Derived.Test.YtlfldnogjndglaaDoorRctB
import Derived.Test.YtlfldnogjndglaaDoorCtlC
namespace Go.Proofs.YtlfldnogjndglaaDoor
open Go.RowKit
set_option linter.unusedVariables false
set_option linter.unusedSimpArgs false

/-- The first k of some texts, joined. -/
def joinTo (l : List (List UInt8)) (sep : List UInt8) (k : Nat) : List UInt8 := Lib.join (l.take k) sep
theorem join_snoc (xs : List (List UInt8)) (x sep : List UInt8) : Lib.join (xs ++ [x]) sep = if xs = [] then x else Lib.join xs sep ++ sep ++ x := by
  cases xs with
  | nil => simp [Lib.join_one]
  | cons y r =>
    rw [if_neg (by simp), List.cons_append, Lib.join_cons, Lib.join_cons]
    simp [Lib.joinTail]
theorem joinTo_succ {l : List (List UInt8)} {sep : List UInt8} {k : Nat} (h : k < l.length) : joinTo l sep (k + 1) = (if k = 0 then [] else joinTo l sep k ++ sep) ++ l[k] := by
  unfold joinTo
  rw [List.take_succ_eq_append_getElem h, join_snoc]
  by_cases hk : k = 0
  · subst hk; simp
  · rw [if_neg (by intro e; have := congrArg List.length e; rw [List.length_take] at this; simp only [List.length_nil] at this; omega), if_neg hk]
theorem joinTo_zero (l : List (List UInt8)) (sep : List UInt8) : joinTo l sep 0 = [] := by unfold joinTo; rw [List.take_zero]; rfl
theorem joinTo_all {l : List (List UInt8)} {sep : List UInt8} {k : Nat} (h : l.length ≤ k) : joinTo l sep k = Lib.join l sep := by unfold joinTo; rw [List.take_of_length_le h]
theorem joinTo_mono {l : List (List UInt8)} {sep : List UInt8} : ∀ (n k : Nat), (joinTo l sep k).length ≤ (joinTo l sep (k + n)).length
  | 0, k => Nat.le_refl _
  | n + 1, k => by
    refine Nat.le_trans (joinTo_mono n k) ?_
    rw [← Nat.add_assoc]
    rcases Nat.lt_or_ge (k + n) l.length with h | h
    · rw [joinTo_succ h]
      by_cases h0 : k + n = 0
      · have e : joinTo l sep (k + n) = [] := by rw [h0]; exact joinTo_zero l sep
        rw [e]; simp
      · rw [if_neg h0]; simp
    · rw [joinTo_all h, joinTo_all (by omega)]; omega
theorem joinTo_le {l : List (List UInt8)} {sep : List UInt8} {k : Nat} (h : k ≤ l.length) : (joinTo l sep k).length ≤ (Lib.join l sep).length := by
  have := joinTo_mono (l := l) (sep := sep) (l.length - k) k
  rw [show k + (l.length - k) = l.length by omega, joinTo_all (Nat.le_refl _)] at this
  exact this
theorem partN_one (name : List UInt8) (n : Int) : (partN name n).length ≤ 1 := by unfold partN; split <;> simp
theorem cap_in {n : Int} (h : 0 ≤ n) : 0 ≤ capV n ∧ capV n ≤ 9223372036854775807 := by unfold capV; omega

end Go.Proofs.YtlfldnogjndglaaDoor
