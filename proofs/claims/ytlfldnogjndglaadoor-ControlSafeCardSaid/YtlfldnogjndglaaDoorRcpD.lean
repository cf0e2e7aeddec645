/-
  The parts of a value: the reference's walk.
-/
import Derived.Test.YtlfldnogjndglaaDoorRcpC
import Derived.Test.YtlfldnogjndglaaDoorTagS
namespace Go.Proofs.YtlfldnogjndglaaDoor
open Go.RowKit
set_option linter.unusedVariables false
set_option linter.unusedSimpArgs false

/-- The parts of a value. -/
def partsV (l : Bs) : List Bs := (splitQ false [] l).map trimB
def QG (l : Bs) (k b : Nat) (q : Bool) (ts : List Bs) : Prop := ts ++ (splitQ q (segB l b k) (l.drop k)).map trimB = partsV l
theorem qg_zero (l : Bs) : QG l 0 0 false [] := rfl
theorem qg_go {l : Bs} {k b : Nat} {q q' : Bool} {ts : List Bs} (hb : b ≤ k) (hk : k < l.length) (hq : (q ^^ (l[k] == 34)) = q') (hn : (l[k] == 44 && !q') = false) (h : QG l k b q ts) : QG l (k + 1) b q' ts := by
  unfold QG at h ⊢
  rw [List.drop_eq_getElem_cons hk, splitQ, hq, hn] at h
  rw [seg_snoc hb hk]
  simpa using h
theorem qg_cut {l : Bs} {k b : Nat} {ts : List Bs} (hk : k < l.length) (hc : (l[k] == 44) = true) (h : QG l k b false ts) : QG l (k + 1) (k + 1) false (ts ++ [trimB (segB l b k)]) := by
  unfold QG at h ⊢
  have hc' : l[k] = 44 := by simpa using hc
  rw [List.drop_eq_getElem_cons hk, splitQ, hc'] at h
  have e2 : ((44 : UInt8) == 44) = true := rfl
  have e3 : ((44 : UInt8) == 34) = false := rfl
  simp only [e2, e3, Bool.xor_false, Bool.not_false, Bool.and_true, if_true] at h
  have : segB l (k + 1) (k + 1) = [] := by unfold segB; simp
  rw [this]; simpa using h
theorem qg_end {l : Bs} {k b : Nat} {q : Bool} {ts : List Bs} (hk : l.length ≤ k) (h : QG l k b q ts) : ts ++ [trimB (l.drop b)] = partsV l := by
  unfold QG at h
  rw [List.drop_eq_nil_of_le hk, splitQ] at h
  have : segB l b k = l.drop b := by unfold segB; rw [List.take_of_length_le (by rw [List.length_drop]; omega)]
  rw [this] at h
  exact h
theorem partsV_len (l : Bs) : (∀ p ∈ partsV l, p.length ≤ l.length) ∧ (partsV l).length ≤ l.length + 1 := by
  obtain ⟨h1, h2⟩ := split_len l false []
  refine ⟨fun p hp => ?_, by unfold partsV; rw [List.length_map]; exact h2⟩
  unfold partsV at hp
  obtain ⟨x, hx, rfl⟩ := List.mem_map.1 hp
  have := h1 x hx
  have := trim_size x
  simp at *
  omega
def ListGot (l : List Bs) (w : World) (e : Ending) (w' : World) : Prop := ∃ v, e = .returned v ∧ OwnL LS w.heap.size w' v l ∧ Below w.heap.size w w'

end Go.Proofs.YtlfldnogjndglaaDoor
