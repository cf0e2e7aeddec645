/-
  The rule so far, the part that is read and what is left of a value.
-/
import Derived.Test.YtlfldnogjndglaaDoorTagS
import Derived.Test.YtlfldnogjndglaaDoorCpO
namespace Go.Proofs.YtlfldnogjndglaaDoor
set_option linter.unusedVariables false
set_option linter.unusedSimpArgs false

def RG (r0 : RuleM) (l : Bs) (j b : Nat) (q : Bool) (r : RuleM) : Prop :=
  (j ≤ l.length → restV r q (segB l b j) (l.drop j) = sayV r0 l) ∧ (l.length < j → r = sayV r0 l)
theorem rg_zero (r0 : RuleM) (l : Bs) : RG r0 l 0 0 false r0 := ⟨fun _ => rfl, fun h => absurd h (by omega)⟩
theorem rg_go {r0 r : RuleM} {l : Bs} {j b : Nat} {q q' : Bool} (hb : b ≤ j) (hk : j < l.length) (hq : (q ^^ (l[j] == 34)) = q') (hn : (l[j] == 44 && !q') = false) (h : RG r0 l j b q r) : RG r0 l (j + 1) b q' r := by
  refine ⟨fun _ => ?_, fun h => absurd h (by omega)⟩
  have h1 := h.1 (by omega)
  rw [List.drop_eq_getElem_cons hk, restV_next _ _ _ _ (by rw [hq]; exact hn), hq] at h1
  rw [seg_snoc hb hk]
  exact h1
theorem rg_cut {r0 r : RuleM} {l : Bs} {j b : Nat} (hk : j < l.length) (hc : (l[j] == 44) = true) (h : RG r0 l j b false r) : RG r0 l (j + 1) (j + 1) false (heedV r (trimB (segB l b j))) := by
  have h1 := h.1 (by omega)
  have hc' : l[j] = 44 := by simpa using hc
  rw [List.drop_eq_getElem_cons hk, hc', restV_comma] at h1
  refine ⟨fun _ => ?_, fun h => absurd h (by omega)⟩
  have : segB l (j + 1) (j + 1) = [] := by unfold segB; simp
  rw [this]; exact h1
theorem rg_end {r0 r : RuleM} {l : Bs} {j b : Nat} {q : Bool} (hk : j = l.length) (h : RG r0 l j b q r) : RG r0 l (j + 1) (j + 1) q (heedV r (trimB (segB l b j))) := by
  have h1 := h.1 (by omega)
  have hd : l.drop j = [] := List.drop_eq_nil_of_le (by omega)
  rw [hd, restV_end] at h1
  exact ⟨fun h => absurd h (by omega), fun _ => h1⟩
theorem rg_done {r0 r : RuleM} {l : Bs} {j b : Nat} {q : Bool} (hk : l.length < j) (h : RG r0 l j b q r) : r = sayV r0 l := h.2 hk
theorem says_step {l : List Bs} {k : Nat} (h : k < l.length) : (l.take (k + 1)).foldl sayV RuleM.zero = sayV ((l.take k).foldl sayV RuleM.zero) l[k] := by
  rw [List.take_succ_eq_append_getElem h, List.foldl_append]; rfl
end Go.Proofs.YtlfldnogjndglaaDoor
