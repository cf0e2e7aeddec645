/-
  Lists of tags: what a walk over a text's bytes keeps; how tags and strings lie in slices.
-/
import Derived.Test.YtlfldnogjndglaaDoorStrL
import Derived.Test.YtlfldnogjndglaaDoorOwnL
import Derived.Test.YtlfldnogjndglaaDoorGrTb
namespace Go.Proofs.YtlfldnogjndglaaDoor
open Go.RowKit
set_option linter.unusedVariables false

/-- A slice of strings. -/
def LS : Lay Bs where
  t := 22
  e := 9
  n := 1
  bytes := 16
  enc s := [.string ⟨s.toArray⟩]
  len _ := rfl
  one _ u hu := by simp at hu; subst hu; rfl
  pos := by decide
  z := .string ⟨#[]⟩
  ht := Tryd.underlying22
  info := by kernel_rfl
  zs := rfl

def segB (l : Bs) (b k : Nat) : Bs := (l.drop b).take (k - b)
def foldS (l : Bs) : Option (List TagL) := foldT [] (splitQ false [] l)
def LG (l : Bs) (k b : Nat) (q : Bool) (ts : List TagL) : Prop :=
  (k ≤ l.length → foldT ts (splitQ q (segB l b k) (l.drop k)) = foldS l) ∧ (l.length < k → foldS l = some ts)
theorem lg_zero (l : Bs) : LG l 0 0 false [] := ⟨fun _ => rfl, fun h => absurd h (by omega)⟩
theorem seg_snoc {l : Bs} {b k : Nat} (hb : b ≤ k) (hk : k < l.length) : segB l b (k + 1) = segB l b k ++ [l[k]] := by
  unfold segB
  rw [show k + 1 - b = (k - b) + 1 by omega, List.take_succ_eq_append_getElem (by rw [List.length_drop]; omega), List.getElem_drop]
  congr 2
  simp only [show b + (k - b) = k by omega]
theorem lg_go {l : Bs} {k b : Nat} {q q' : Bool} {ts : List TagL} (hb : b ≤ k) (hk : k < l.length) (hq : (q ^^ (l[k] == 34)) = q') (hn : (l[k] == 44 && !q') = false) (h : LG l k b q ts) : LG l (k + 1) b q' ts := by
  refine ⟨fun _ => ?_, fun h => absurd h (by omega)⟩
  have h1 := h.1 (by omega)
  rw [List.drop_eq_getElem_cons hk, splitQ, hq, hn] at h1
  rw [seg_snoc hb hk]
  simpa using h1
theorem lg_cut {l : Bs} {k b : Nat} {ts : List TagL} (hk : k < l.length) (hc : (l[k] == 44) = true) (h : LG l k b false ts) :
    (∀ acc, stepT ts (segB l b k) = some acc → LG l (k + 1) (k + 1) false acc) ∧ (stepT ts (segB l b k) = none → foldS l = none) := by
  have h1 := h.1 (by omega)
  have hc' : l[k] = 44 := by simpa using hc
  rw [List.drop_eq_getElem_cons hk, splitQ, hc'] at h1
  have e2 : ((44 : UInt8) == 44) = true := rfl
  have e3 : ((44 : UInt8) == 34) = false := rfl
  simp only [e2, e3, Bool.xor_false, Bool.not_false, Bool.and_true, if_true] at h1
  rw [foldT] at h1
  refine ⟨fun acc ha => ⟨fun _ => ?_, fun h => absurd h (by omega)⟩, fun hn => ?_⟩
  · rw [ha] at h1
    have : segB l (k + 1) (k + 1) = [] := by unfold segB; simp
    rw [this]; exact h1
  · rw [hn] at h1; exact h1.symm
theorem lg_end {l : Bs} {k b : Nat} {q : Bool} {ts : List TagL} (hk : k = l.length) (h : LG l k b q ts) :
    (∀ acc, stepT ts (segB l b k) = some acc → LG l (k + 1) (k + 1) q acc) ∧ (stepT ts (segB l b k) = none → foldS l = none) := by
  have h1 := h.1 (by omega)
  have hd : l.drop k = [] := List.drop_eq_nil_of_le (by omega)
  rw [hd, splitQ, foldT] at h1
  refine ⟨fun acc ha => ⟨fun h => absurd h (by omega), fun _ => ?_⟩, fun hn => ?_⟩
  · rw [ha] at h1; exact h1.symm
  · rw [hn] at h1; exact h1.symm
theorem step_skip {ts : List TagL} {p : Bs} (h : trimB p = []) : stepT ts p = some ts := by unfold stepT; rw [h]; rfl
theorem step_none {ts : List TagL} {p : Bs} (h : trimB p ≠ []) (hp : parseB p = none) : stepT ts p = none := by
  unfold stepT; rw [if_neg (by simpa using h), hp]; rfl
theorem step_some {ts : List TagL} {p : Bs} {t : TagL} (h : trimB p ≠ []) (hp : parseB p = some t) : stepT ts p = some (ts ++ [t]) := by
  unfold stepT; rw [if_neg (by simpa using h), hp]; rfl
theorem list_star {l : Bs} (h : (trimB l == [42]) = true) : listB l = ⟨true, 0, []⟩ := by unfold listB; rw [if_pos h]
theorem list_fold {l : Bs} (h : (trimB l == [42]) = false) : listB l = listR (foldS l) := by unfold listB; rw [if_neg (by rw [h]; simp)]; rfl
theorem listR_empty : listR (some []) = ⟨false, 2, []⟩ := rfl
theorem listR_many {ts : List TagL} (h : 64 < ts.length) : listR (some ts) = ⟨false, 4, []⟩ := by
  unfold listR
  cases ts with
  | nil => simp at h
  | cons t ts => simp only [List.isEmpty_cons]; rw [if_neg (by simp), if_pos h]
theorem listR_some {ts : List TagL} (h0 : 0 < ts.length) (h : ¬ 64 < ts.length) : listR (some ts) = ⟨false, 0, ts⟩ := by
  unfold listR
  cases ts with
  | nil => simp at h0
  | cons t ts => simp only [List.isEmpty_cons]; rw [if_neg (by simp), if_neg h]

theorem split_len : ∀ (r : Bs) (q : Bool) (now : Bs), (∀ p ∈ splitQ q now r, p.length ≤ now.length + r.length) ∧ (splitQ q now r).length ≤ r.length + 1
  | [], q, now => by simp [splitQ]
  | c :: r, q, now => by
    rw [splitQ]
    split
    · obtain ⟨h1, h2⟩ := split_len r (q ^^ (c == 34)) []
      refine ⟨fun p hp => ?_, by simp; omega⟩
      rcases List.mem_cons.1 hp with rfl | hp
      · simp
      · have := h1 p hp
        simp at this ⊢; omega
    · obtain ⟨h1, h2⟩ := split_len r (q ^^ (c == 34)) (now ++ [c])
      refine ⟨fun p hp => ?_, by simp; omega⟩
      have := h1 p hp
      simp at this ⊢; omega
/-- Parts so far, the part that is read, and what is left. -/
def PG (l : Bs) (k : Nat) (q : Bool) (u : Bs) (ps : List Bs) : Prop := ps ++ splitQ q u (l.drop k) = splitQ false [] l
theorem pg_go {l u : Bs} {k : Nat} {q q' : Bool} {ps : List Bs} (hk : k < l.length) (hq : (q ^^ (l[k] == 34)) = q') (hn : (l[k] == 44 && !q') = false) (h : PG l k q u ps) : PG l (k + 1) q' (u ++ [l[k]]) ps := by
  unfold PG at h ⊢
  rw [List.drop_eq_getElem_cons hk, splitQ, hq, hn] at h
  simpa using h
theorem pg_cut {l u : Bs} {k : Nat} {ps : List Bs} (hk : k < l.length) (hc : (l[k] == 44) = true) (h : PG l k false u ps) : PG l (k + 1) false [] (ps ++ [u]) := by
  unfold PG at h ⊢
  have hc' : l[k] = 44 := by simpa using hc
  rw [List.drop_eq_getElem_cons hk, splitQ, hc'] at h
  have e2 : ((44 : UInt8) == 44) = true := rfl
  have e3 : ((44 : UInt8) == 34) = false := rfl
  simp only [e2, e3, Bool.xor_false, Bool.not_false, Bool.and_true, if_true] at h
  simpa using h
theorem pg_end {l u : Bs} {k : Nat} {q : Bool} {ps : List Bs} (hk : l.length ≤ k) (h : PG l k q u ps) : ps ++ [u] = splitQ false [] l := by
  unfold PG at h
  rw [List.drop_eq_nil_of_le hk, splitQ] at h
  exact h
def FG (P : List Bs) (l : Bs) (j : Nat) (ts : List TagL) : Prop := foldT ts (P.drop j) = foldS l
theorem fg_step {P : List Bs} {l : Bs} {j : Nat} {ts : List TagL} (hj : j < P.length) (h : FG P l j ts) :
    (∀ acc, stepT ts P[j] = some acc → FG P l (j + 1) acc) ∧ (stepT ts P[j] = none → foldS l = none) := by
  unfold FG at h ⊢
  rw [List.drop_eq_getElem_cons hj, foldT] at h
  exact ⟨fun acc ha => by rw [ha] at h; exact h, fun hn => by rw [hn] at h; exact h.symm⟩
theorem fg_end {P : List Bs} {l : Bs} {j : Nat} {ts : List TagL} (hj : P.length ≤ j) (h : FG P l j ts) : foldS l = some ts := by
  unfold FG at h
  rw [List.drop_eq_nil_of_le hj, foldT] at h
  exact h.symm

end Go.Proofs.YtlfldnogjndglaaDoor
