/-
  What the walks of a rule's parse want: a cut at the first '=', a number byte by byte, parts byte by byte.
-/
import Derived.Test.YtlfldnogjndglaaDoorCpM
import Derived.Lib.IndexMore
namespace Go.Proofs.YtlfldnogjndglaaDoor
set_option linter.unusedVariables false
set_option linter.unusedSimpArgs false

theorem index_eq (b : UInt8) (r : Bs) : Lib.index (b :: r) [61] = if b = 61 then 0 else if Lib.index r [61] = -1 then -1 else Lib.index r [61] + 1 := by
  rw [Lib.index]
  by_cases hb : b = 61
  · subst hb; simp [List.isPrefixOf]
  · have : (61 == b) = false := by rw [beq_eq_false_iff_ne]; exact fun e => hb e.symm
    simp [List.isPrefixOf, this, hb]
theorem cut_eq : ∀ s : Bs, (Lib.cut s [61]).1 = (cutEq s).1 ∧ (Lib.cut s [61]).2.1 = (cutEq s).2
  | [] => by decide
  | b :: r => by
    obtain ⟨h1, h2⟩ := cut_eq r
    have hge := Lib.index_ge r [61]
    unfold Lib.cut at h1 h2 ⊢
    rw [index_eq, cutEq]
    by_cases hb : b = 61
    · rw [if_pos hb, if_pos hb, if_pos (by omega)]
      subst hb
      exact ⟨by simp, by simp⟩
    · rw [if_neg hb, if_neg hb]
      by_cases hi : Lib.index r [61] = -1
      · rw [if_pos hi]
        rw [hi] at h1 h2
        rw [if_neg (by omega)] at h1 h2 ⊢
        exact ⟨by rw [← h1], by rw [← h2]⟩
      · rw [if_neg hi]
        rw [if_pos (show 0 ≤ Lib.index r [61] by omega)] at h1 h2
        rw [if_pos (show 0 ≤ Lib.index r [61] + 1 by omega)]
        have e : (Lib.index r [61] + 1).toNat = (Lib.index r [61]).toNat + 1 := by omega
        rw [e]
        refine ⟨?_, ?_⟩
        · show (b :: r).take ((Lib.index r [61]).toNat + 1) = b :: (cutEq r).1
          rw [List.take_succ_cons, ← h1]
        · show (b :: r).drop ((Lib.index r [61]).toNat + 1 + [(61 : UInt8)].length) = (cutEq r).2
          rw [← h2, show (Lib.index r [61]).toNat + 1 + [(61 : UInt8)].length = ((Lib.index r [61]).toNat + [(61 : UInt8)].length) + 1 by simp, List.drop_succ_cons]
theorem cutEq_len (s : Bs) : (cutEq s).1.length ≤ s.length ∧ (cutEq s).2.length ≤ s.length := by
  induction s with
  | nil => exact ⟨Nat.le_refl _, Nat.le_refl _⟩
  | cons b r ih =>
    rw [cutEq]
    split
    · exact ⟨Nat.zero_le _, by simp⟩
    · exact ⟨by simp; exact ih.1, by simp; omega⟩
/-- From the end down to k: the name and the argument so far. -/
def cutK (s : Bs) (k : Nat) : Bs × Bs := (s.take k ++ (cutEq (s.drop k)).1, (cutEq (s.drop k)).2)
theorem cutK_end (s : Bs) : cutK s s.length = (s, []) := by unfold cutK; rw [List.drop_length, List.take_length]; simp [cutEq]
theorem cutK_zero (s : Bs) : cutK s 0 = cutEq s := by unfold cutK; rw [List.drop_zero, List.take_zero]; simp
theorem cutK_hit {s : Bs} {k : Nat} (h : k < s.length) (he : s[k] = 61) : cutK s k = (s.take k, s.drop (k + 1)) := by
  unfold cutK
  rw [List.drop_eq_getElem_cons h, cutEq, if_pos he]; simp
theorem cutK_miss {s : Bs} {k : Nat} (h : k < s.length) (he : s[k] ≠ 61) : cutK s k = cutK s (k + 1) := by
  unfold cutK
  rw [List.drop_eq_getElem_cons h, cutEq, if_neg he, List.take_succ_eq_append_getElem h, List.append_assoc]; rfl
theorem numFold_app (l : Bs) (b : UInt8) (n : Int) : (l ++ [b]).foldl numStep n = numStep (l.foldl numStep n) b := by rw [List.foldl_append]; rfl
theorem numV_yes {l : Bs} (h : l.all digB = true) (hne : l ≠ []) : numV l = l.foldl numStep 0 := by
  unfold numV; rw [if_pos ⟨by cases l with | nil => exact absurd rfl hne | cons => rfl, h⟩]
theorem numV_nil : numV [] = -1 := rfl
theorem numV_no {l : Bs} (h : l.all digB = false) : numV l = -1 := by unfold numV; rw [if_neg (by rw [h]; simp)]
theorem digB_iff (b : UInt8) : digB b = true ↔ 48 ≤ (b.toNat : Int) ∧ (b.toNat : Int) ≤ 57 := by unfold digB; rw [decide_eq_true_eq]
/-- The rest of a value, from the part that is under way. -/
def restV (r : RuleM) (q : Bool) (now rest : Bs) : RuleM := ruleOf r (splitQ q now rest)
theorem restV_start (r : RuleM) (s : Bs) : restV r false [] s = sayV r s := rfl
theorem restV_end (r : RuleM) (q : Bool) (now : Bs) : restV r q now [] = heedV r (trimB now) := by unfold restV ruleOf; rw [splitQ]; rfl
theorem restV_comma (r : RuleM) (now rest : Bs) : restV r false now (44 :: rest) = restV (heedV r (trimB now)) false [] rest := by
  unfold restV
  rw [splitQ]
  rfl
theorem restV_next (r : RuleM) (q : Bool) (now rest : Bs) {b : UInt8} (h : (b == 44 && !(q ^^ (b == 34))) = false) : restV r q now (b :: rest) = restV r (q ^^ (b == 34)) (now ++ [b]) rest := by
  unfold restV
  rw [splitQ, h]
  rfl
end Go.Proofs.YtlfldnogjndglaaDoor
