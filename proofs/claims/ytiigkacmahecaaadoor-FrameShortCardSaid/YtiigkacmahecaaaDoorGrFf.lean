/-
  Merged: FfL, FfM.
-/
import Derived.Test.YtiigkacmahecaaaDoorGrTs
import Derived.Test.YtiigkacmahecaaaDoorWList
import Derived.Test.YtiigkacmahecaaaDoorStrL
import Derived.Test.YtiigkacmahecaaaDoorGrCp
namespace Go.Proofs.YtiigkacmahecaaaDoor
open Go.RowKit
set_option linter.unusedVariables false
set_option linter.unusedSimpArgs false

abbrev FieldL := List UInt8 × List UInt8
/-- A slice of fields. -/
def LF : Lay FieldL where
  t := 22
  e := 59
  n := 2
  bytes := 32
  enc f := [.string ⟨f.1.toArray⟩, .string ⟨f.2.toArray⟩]
  len _ := rfl
  one _ u hu := by simp at hu; rcases hu with rfl | rfl <;> rfl
  pos := by decide
  z := .agg #[.string ⟨#[]⟩, .string ⟨#[]⟩]
  ht := Tryd.underlying22
  info := by kernel_rfl
  zs := rfl
theorem LFenc (a b : List UInt8) : LF.enc (a, b) = [.string ⟨a.toArray⟩, .string ⟨b.toArray⟩] := rfl
/-- The cells of a field that is read at a place. -/
theorem RdL.field {w : World} {B n c : Nat} {A : Option Addr} {l : List FieldL} (h : RdL LF w B (.slice A n c) l) (i : Nat) (hi : i < l.length) : ∃ b off, A = some ⟨b, off, none⟩ ∧ b < B ∧ w.cell? ⟨b, off + i * 2, none⟩ = some (.string ⟨l[i].1.toArray⟩) ∧ w.cell? ⟨b, off + i * 2 + 1, none⟩ = some (.string ⟨l[i].2.toArray⟩) := by
  obtain ⟨b, off, e, hlt, hc⟩ := h.at_ i hi
  exact ⟨b, off, e, hlt, by simpa [LF] using hc 0 _ rfl, by simpa [LF] using hc 1 _ rfl⟩
/-- A text of a list of texts, at a place. -/
theorem RdL.text {w : World} {B n c : Nat} {A : Option Addr} {l : List Bs} (h : RdL LW w B (.slice A n c) l) (i : Nat) (hi : i < l.length) : ∃ b off, A = some ⟨b, off, none⟩ ∧ b < B ∧ w.cell? ⟨b, off + i, none⟩ = some (.string ⟨l[i].toArray⟩) := by
  obtain ⟨b, off, e, hlt, hc⟩ := h.at_ i hi
  exact ⟨b, off, e, hlt, by simpa [LW] using hc 0 _ rfl⟩

end Go.Proofs.YtiigkacmahecaaaDoor
namespace Go.Proofs.YtiigkacmahecaaaDoor
open Go.RowKit
set_option linter.unusedVariables false
set_option linter.unusedSimpArgs false

/-- Two names, but for the case of letters. -/
def alikeB (a b : Bs) : Bool := a.map lowB == b.map lowB
/-- All values of a name. -/
def ofV (l : List FieldL) (n : Bs) : List Bs := (l.filter fun f => alikeB f.1 n).map (·.2)
theorem ofV_nil (n : Bs) : ofV [] n = [] := rfl
theorem ofV_app (l m : List FieldL) (n : Bs) : ofV (l ++ m) n = ofV l n ++ ofV m n := by unfold ofV; rw [List.filter_append, List.map_append]
theorem ofV_one (f : FieldL) (n : Bs) : ofV [f] n = if alikeB f.1 n then [f.2] else [] := by unfold ofV; cases h : alikeB f.1 n <;> simp [h]
theorem ofV_yes {l : List FieldL} {n : Bs} {k : Nat} (hk : k < l.length) (h : alikeB l[k].1 n = true) : ofV (l.take (k + 1)) n = ofV (l.take k) n ++ [l[k].2] := by
  rw [List.take_succ_eq_append_getElem hk, ofV_app, ofV_one, if_pos h]
theorem ofV_no {l : List FieldL} {n : Bs} {k : Nat} (hk : k < l.length) (h : alikeB l[k].1 n = false) : ofV (l.take (k + 1)) n = ofV (l.take k) n := by
  rw [List.take_succ_eq_append_getElem hk, ofV_app, ofV_one, h]; simp
theorem ofV_hit {l : List FieldL} {n : Bs} {k : Nat} (hk : k < l.length) (h0 : ofV (l.take k) n = []) (h : alikeB l[k].1 n = true) : (ofV l n).head? = some l[k].2 := by
  obtain ⟨f, hf⟩ : ∃ f, f = l[k] := ⟨_, rfl⟩
  have e : l = l.take k ++ ([f] ++ l.drop (k + 1)) := by rw [List.singleton_append, hf, ← List.drop_eq_getElem_cons hk, List.take_append_drop]
  rw [← hf] at h ⊢
  have e2 : ofV l n = ofV (l.take k ++ ([f] ++ l.drop (k + 1))) n := congrArg (fun m => ofV m n) e
  rw [e2, ofV_app, h0, List.nil_append, ofV_app, ofV_one, if_pos h]; rfl
theorem ofV_mem {l : List FieldL} {n x : Bs} (h : x ∈ ofV l n) : ∃ f ∈ l, f.2 = x := by
  unfold ofV at h
  obtain ⟨f, hf, rfl⟩ := List.mem_map.1 h
  exact ⟨f, (List.mem_filter.1 hf).1, rfl⟩
theorem ofV_len (l : List FieldL) (n : Bs) : (ofV l n).length ≤ l.length := by unfold ofV; rw [List.length_map]; exact List.length_filter_le _ _
/-- Fields' bytes in all. -/
def sumF : List FieldL → Nat
  | [] => 0
  | f :: l => f.1.length + f.2.length + sumF l
theorem sumF_app (l m : List FieldL) : sumF (l ++ m) = sumF l + sumF m := by
  induction l with
  | nil => simp [sumF]
  | cons f l ih => simp only [List.cons_append, sumF, ih]; omega
theorem sumF_mem {l : List FieldL} {f : FieldL} (h : f ∈ l) : f.1.length + f.2.length ≤ sumF l := by
  induction l with
  | nil => cases h
  | cons g l ih =>
    simp only [sumF]
    rcases List.mem_cons.1 h with rfl | h
    · omega
    · have := ih h; omega
theorem sumF_of (l : List FieldL) (n : Bs) : ((ofV l n).map List.length).sum ≤ sumF l := by
  induction l with
  | nil => simp [ofV, sumF]
  | cons f l ih =>
    rw [show f :: l = [f] ++ l from rfl, ofV_app, ofV_one, List.map_append, List.sum_append, sumF_app]
    have : ((if alikeB f.1 n = true then [f.2] else ([] : List Bs)).map List.length).sum ≤ sumF [f] := by
      split <;> simp [sumF] <;> omega
    omega
theorem join_sum (l : List Bs) (sep : Bs) : (Lib.join l sep).length ≤ (l.map List.length).sum + l.length * sep.length := by
  cases l with
  | nil => simp [Lib.join]
  | cons x l =>
    rw [Lib.join_length, Nat.mul_comm]
    have : l.length * sep.length ≤ (x :: l).length * sep.length := Nat.mul_le_mul_right _ (by simp)
    have e : Lib.lens (x :: l) = ((x :: l).map List.length).sum := rfl
    omega
theorem join_snocF (l : List Bs) (x sep : Bs) (h : l ≠ []) : Lib.join (l ++ [x]) sep = Lib.join l sep ++ sep ++ x := by
  cases l with
  | nil => exact absurd rfl h
  | cons y r =>
    rw [List.cons_append, Lib.join_cons, Lib.join_cons]
    simp [Lib.joinTail, List.append_assoc]
/-- The tags of a name's values. -/
def tagsV (vs : List Bs) : ListR := if vs.isEmpty then ⟨false, 0, []⟩ else if (listB (Lib.join vs [44, 32])).e = 0 ∧ 32 < (listB (Lib.join vs [44, 32])).l.length then ⟨false, 4, []⟩ else listB (Lib.join vs [44, 32])
theorem listB_e (s : Bs) : ((listB s).e = 0 ∨ (listB s).e = 2 ∨ (listB s).e = 4) ∧ ((listB s).e ≠ 0 → (listB s).any = false ∧ (listB s).l = []) ∧ (listB s).l.length ≤ 64 := by
  unfold listB
  split
  · simp
  · cases foldT [] (splitQ false [] s) with
    | none => simp [listR]
    | some ts =>
      simp only [listR]
      split
      · simp
      · split
        · simp
        · refine ⟨.inl rfl, fun h => absurd rfl h, by show ts.length ≤ 64; omega⟩
theorem tagsV_nil : tagsV [] = ⟨false, 0, []⟩ := rfl
theorem tagsV_cons {vs : List Bs} (h : vs ≠ []) : tagsV vs = if (listB (Lib.join vs [44, 32])).e = 0 ∧ 32 < (listB (Lib.join vs [44, 32])).l.length then ⟨false, 4, []⟩ else listB (Lib.join vs [44, 32]) := by
  unfold tagsV; cases vs with
  | nil => exact absurd rfl h
  | cons => rfl
theorem tagsV_e (vs : List Bs) : ((tagsV vs).e = 0 ∨ (tagsV vs).e = 2 ∨ (tagsV vs).e = 4) ∧ ((tagsV vs).e ≠ 0 → (tagsV vs).any = false ∧ (tagsV vs).l = []) ∧ (tagsV vs).l.length ≤ 64 := by
  unfold tagsV
  split
  · simp
  · split
    · simp
    · exact listB_e _
/-- The tag of a Range's value. -/
def rangeV (vs : List Bs) : TagL := match vs.head? with
  | none => ([], false)
  | some x => (parseB x).getD ([], true)

end Go.Proofs.YtiigkacmahecaaaDoor
