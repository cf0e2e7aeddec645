/-
  A map as four sets.
-/
import Derived.RangeFuncNested
import Derived.RangeFuncBound
import Derived.RangeFuncCalls
import Derived.RangeFuncLeaves
import Derived.Shelf.Abstract
import Derived.Shelf.RegionOpen
import Derived.WalkKit
import Derived.OwnWalkIn
import Derived.TacticsInMore
import Derived.LoopNIn
import Derived.LoopIn
import Derived.Test.YtfcbmajogmojbaaDoorMapF
namespace Go.Proofs.YtfcbmajogmojbaaDoor
open Go.RowKit Go.Shelf
set_option linter.unusedVariables false
set_option linter.unusedSimpArgs false

theorem one_good {s : Sp} (h : properB s.1 s.2 = true) : goodB s = true ∧ okS s := by
  have h' := h
  unfold properB rightB at h
  simp only [Bool.and_eq_true, decide_eq_true_eq] at h
  refine ⟨?_, h.1.1, h.2, h.1.2.2⟩
  unfold goodB rightB
  simp only [Bool.and_eq_true, decide_eq_true_eq, Bool.not_eq_true', decide_eq_false_iff_not]
  first | exact ⟨h.1, by omega⟩ | exact ⟨h.1, h.2⟩
theorem one_bad {s : Sp} (h : properB s.1 s.2 = false) : goodB s = false := by
  cases q : goodB s
  · rfl
  · have := good_ok q
    unfold okS at this
    unfold properB rightB at h
    simp only [Bool.and_eq_false_iff, decide_eq_false_iff_not] at h
    omega
theorem one_cov (s : Sp) (a : Int) : Cov (ofL [s]) a ↔ properB s.1 s.2 = true ∧ s.1 ≤ a ∧ a < s.2 := by
  rw [ofL_cov]
  cases q : properB s.1 s.2
  · have : goodL [s] = [] := by unfold goodL; simp [one_bad q]
    rw [this]
    exact ⟨fun h => (cov_nil a h).elim, fun h => by cases h.1⟩
  · have : goodL [s] = [s] := by unfold goodL; simp [(one_good q).1]
    rw [this, cov_cons]
    exact ⟨fun h => ⟨rfl, h.elim id fun h => (cov_nil a h).elim⟩, fun h => .inl h.2⟩
/-- A round's put: the span, what is told, whether it is dropped. -/
def stepR (s : Sp) (v : Int) (d : Bool) (l : List Rn) : List Rn := if properB s.1 s.2 then (if d then dropR s l else putR s v l) else l
theorem step_nf {s : Sp} {v : Int} {d : Bool} {l : List Rn} (h : RNf l) : RNf (stepR s v d l) := by
  unfold stepR
  cases q : properB s.1 s.2
  · exact h
  · cases d
    · exact put_nf h (one_good q).2
    · exact drop_nf (one_good q).2 h
theorem step_len {s : Sp} {v : Int} {d : Bool} {l : List Rn} (h : RNf l) : (stepR s v d l).length ≤ l.length + 2 := by
  unfold stepR
  cases q : properB s.1 s.2
  · simp
  · cases d
    · exact put_len h (one_good q).2
    · have := drop_len (one_good q).2 h
      simp only [if_true]
      omega
theorem step_val {s : Sp} {v : Int} {d : Bool} {l : List Rn} (h : RNf l) (hv : 0 ≤ v ∧ v < 4) (hl : ∀ q ∈ l, 0 ≤ q.2 ∧ q.2 < 4) : ∀ q ∈ stepR s v d l, 0 ≤ q.2 ∧ q.2 < 4 := by
  unfold stepR
  cases q : properB s.1 s.2
  · exact hl
  · cases d
    · exact put_val (P := fun z => 0 ≤ z ∧ z < 4) hl hv
    · exact drop_val (P := fun z => 0 ≤ z ∧ z < 4) (one_good q).2 h hl
theorem step_rc {s : Sp} {v : Int} {d : Bool} {l : List Rn} (h : RNf l) (u a : Int) : RC u (stepR s v d l) a ↔ (RC u l a ∧ ¬ Cov (ofL [s]) a) ∨ (d = false ∧ v = u ∧ Cov (ofL [s]) a) := by
  rw [one_cov]
  unfold stepR
  cases q : properB s.1 s.2
  · simp
  · cases d
    · simpa using put_rc h (one_good q).2 u a
    · simpa using drop_rc (one_good q).2 l u a
/-- What the sets become. -/
theorem step_of {s : Sp} {v : Int} {d : Bool} {l : List Rn} (h : RNf l) (u : Int) :
    ofR u (stepR s v d l) = if d = false ∧ v = u then orL (lessL (ofR u l) (ofL [s])) (ofL [s]) else lessL (ofR u l) (ofL [s]) := by
  have hn := of_nf (v := u) h
  have hs := ofL_nf [s]
  have hl := lessL_nf _ _ hn hs
  by_cases c : d = false ∧ v = u
  · rw [if_pos c]
    refine nf_uniq (of_nf (step_nf h)) (orL_nf hl hs) fun a => ?_
    rw [cov_of, step_rc h, orL_cov hl hs, lessL_cov _ _ hn hs, cov_of]
    exact ⟨fun e => e.elim .inl fun e => .inr e.2.2, fun e => e.elim .inl fun e => .inr ⟨c.1, c.2, e⟩⟩
  · rw [if_neg c]
    refine nf_uniq (of_nf (step_nf h)) hl fun a => ?_
    rw [cov_of, step_rc h, lessL_cov _ _ hn hs, cov_of]
    exact ⟨fun e => e.elim id fun e => (c ⟨e.1, e.2.1⟩).elim, .inl⟩
/-- A normal set, made anew, is itself. -/
theorem good_all {l : List Sp} (h : Nf l) : goodL l = l := by
  unfold goodL
  rw [List.filter_eq_self]
  intro x hx
  have : okS x := nf_ok h x hx
  cases q : goodB x
  · unfold goodB rightB at q
    unfold okS at this
    simp at q
    omega
  · rfl
theorem ofL_self {l : List Sp} (h : Nf l) : ofL l = l := nf_uniq (ofL_nf l) h fun a => by rw [ofL_cov, good_all h]
theorem good_all' {l : List Sp} (h : ∀ x ∈ l, okS x) : goodL l = l := by
  unfold goodL
  rw [List.filter_eq_self]
  intro x hx
  have := h x hx
  cases q : goodB x
  · unfold goodB rightB at q
    unfold okS at this
    simp at q
    omega
  · rfl
/-- The four sets, put together, are what is known. -/
def allR (l : List Rn) : Nat → List Sp
  | 0 => []
  | k + 1 => orL (allR l k) (ofR k l)
theorem allR_nf {l : List Rn} (h : RNf l) : ∀ k, Nf (allR l k)
  | 0 => trivial
  | k + 1 => orL_nf (allR_nf h k) (of_nf h)
theorem allR_len {l : List Rn} : ∀ k, (allR l k).length ≤ k * l.length
  | 0 => by simp [allR]
  | k + 1 => by
    have h1 := orL_len (allR l k) (ofR k l)
    have h2 := allR_len (l := l) k
    have h3 := ofR_len (k : Int) l
    show (orL (allR l k) (ofR k l)).length ≤ _
    rw [Nat.succ_mul]
    omega
theorem known_eq {l : List Rn} (h : RNf l) (hv : ∀ q ∈ l, 0 ≤ q.2 ∧ q.2 < 4) : ofL (l.map (·.1)) = allR l 4 := by
  refine nf_uniq (ofL_nf _) (allR_nf h 4) fun a => ?_
  have ho : ∀ x ∈ l.map (·.1), okS x := by
    intro x hx
    obtain ⟨r, hr, rfl⟩ := List.mem_map.1 hx
    exact rnf_ok h r hr
  rw [ofL_cov, good_all' ho, of_all hv]
  have n1 := allR_nf h 1
  have n2 := allR_nf h 2
  have n3 := allR_nf h 3
  have e : allR l 4 = orL (orL (orL (orL [] (ofR 0 l)) (ofR 1 l)) (ofR 2 l)) (ofR 3 l) := rfl
  have m1 : Nf (orL [] (ofR 0 l)) := n1
  have m2 : Nf (orL (orL [] (ofR 0 l)) (ofR 1 l)) := n2
  have m3 : Nf (orL (orL (orL [] (ofR 0 l)) (ofR 1 l)) (ofR 2 l)) := n3
  rw [e, orL_cov m3 (of_nf h), orL_cov m2 (of_nf h), orL_cov m1 (of_nf h), orL_cov (show Nf [] from trivial) (of_nf h), cov_of, cov_of, cov_of, cov_of]
  have := cov_nil a
  simp only [this, false_or, or_assoc]
/-- How many runs: the count of the four sets. -/
def cntR (l : List Rn) : Nat → Nat
  | 0 => 0
  | k + 1 => cntR l k + (ofR k l).length
theorem cnt_eq {l : List Rn} (hv : ∀ q ∈ l, 0 ≤ q.2 ∧ q.2 < 4) : cntR l 4 = l.length := by
  have := of_count hv
  show 0 + (ofR 0 l).length + (ofR 1 l).length + (ofR 2 l).length + (ofR 3 l).length = _
  omega

end Go.Proofs.YtfcbmajogmojbaaDoor
