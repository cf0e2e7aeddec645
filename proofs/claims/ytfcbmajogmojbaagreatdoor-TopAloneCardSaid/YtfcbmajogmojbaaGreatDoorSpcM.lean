/-
  Ranges that are asked, in plain words.
-/
import Derived.Test.YtfcbmajogmojbaaGreatDoorRngM
namespace Go.Proofs.YtfcbmajogmojbaaGreatDoor

set_option linter.unusedVariables false
set_option linter.unusedSimpArgs false

/-- A range may be asked. -/
def specR (x : Sp) : Bool := decide (x.1 ≤ 999999999999999999 ∧ x.2 ≤ 999999999999999999) && (if 0 ≤ x.1 then (if 0 ≤ x.2 then decide (x.1 ≤ x.2) else decide (x.2 = -1)) else (decide (x.1 = -1) && decide (0 ≤ x.2)))
/-- What it has of so many bytes. -/
def bytesS (hv : Int) (x : Sp) : Sp := if x.1 < 0 then (max (hv - x.2) 0, hv) else if 0 ≤ x.2 then (x.1, min (x.2 + 1) hv) else (x.1, hv)
def bytesB (hv : Int) (x : Sp) : Bool := specR x && decide ((bytesS hv x).1 < (bytesS hv x).2)
/-- The spans of those that there are. -/
def resL (hv : Int) (l : List Sp) : List Sp := (l.filter (bytesB hv)).map (bytesS hv)
theorem res_take_yes {hv : Int} {l : List Sp} {k : Nat} (h : k < l.length) (hb : bytesB hv l[k] = true) : resL hv (l.take (k + 1)) = resL hv (l.take k) ++ [bytesS hv l[k]] := by
  unfold resL
  rw [List.take_add_one, List.getElem?_eq_getElem h, Option.toList_some, List.filter_append, List.map_append, List.filter_cons_of_pos hb]
  rfl
theorem res_take_no {hv : Int} {l : List Sp} {k : Nat} (h : k < l.length) (hb : bytesB hv l[k] = false) : resL hv (l.take (k + 1)) = resL hv (l.take k) := by
  unfold resL
  rw [List.take_add_one, List.getElem?_eq_getElem h, Option.toList_some, List.filter_append, List.map_append, List.filter_cons_of_neg (by rw [hb]; decide), List.filter_nil, List.map_nil, List.append_nil]
theorem res_len (hv : Int) (l : List Sp) : (resL hv l).length ≤ l.length := by
  unfold resL
  rw [List.length_map]
  exact List.length_filter_le _ _
theorem bytes_in {hv : Int} {x : Sp} (h0 : 0 ≤ hv) (hb : bytesB hv x = true) : 0 ≤ (bytesS hv x).1 ∧ (bytesS hv x).1 < (bytesS hv x).2 ∧ (bytesS hv x).2 ≤ hv := by
  unfold bytesB at hb
  rw [Bool.and_eq_true] at hb
  have h2 := of_decide_eq_true hb.2
  refine ⟨?_, h2, ?_⟩
  · unfold bytesS
    split
    · show 0 ≤ max _ _; omega
    · split <;> (show 0 ≤ x.1; omega)
  · unfold bytesS
    split
    · show hv ≤ hv; omega
    · split
      · show min _ _ ≤ hv; omega
      · show hv ≤ hv; omega
theorem res_in {hv : Int} {l : List Sp} (h0 : 0 ≤ hv) : ∀ s ∈ resL hv l, 0 ≤ s.1 ∧ s.1 < s.2 ∧ s.2 ≤ hv := by
  intro s hs
  unfold resL at hs
  obtain ⟨x, hx, rfl⟩ := List.mem_map.1 hs
  exact bytes_in h0 (List.mem_filter.1 hx).2
theorem res_ok {hv : Int} {l : List Sp} (h0 : 0 ≤ hv) (h1 : hv ≤ 4611686018427387904) : ∀ s ∈ resL hv l, okS s := fun s hs => by
  have := res_in h0 s hs
  exact ⟨this.1, this.2.1, by omega⟩
theorem res_app (hv : Int) (l m : List Sp) : resL hv (l ++ m) = resL hv l ++ resL hv m := by
  unfold resL
  rw [List.filter_append, List.map_append]
theorem res_one_len (hv : Int) (x : Sp) : (resL hv [x]).length ≤ 1 := res_len hv [x]
/-- The sum of spans, or that one sum on the way was too much. -/
def costG (hv : Int) : Int → List Sp → Bool
  | _, [] => false
  | s, x :: l => if 2 * hv < s + (x.2 - x.1) then true else costG hv (s + (x.2 - x.1)) l
def costB (hv : Int) (most : Nat) (l : List Sp) : Bool := decide (most < l.length) || costG hv 0 (resL hv l)
theorem cost_one {hv : Int} {most : Nat} (h0 : 0 ≤ hv) (h1 : 1 ≤ most) (x : Sp) : costB hv most [x] = false := by
  unfold costB
  rw [decide_eq_false (by simp; omega), Bool.false_or]
  have h := res_in (l := [x]) h0
  have hl := res_one_len hv x
  rcases hr : resL hv [x] with _ | ⟨s, t⟩
  · rfl
  · rw [hr] at h hl
    rcases t with _ | ⟨y, t⟩
    · have := h s (by simp)
      unfold costG
      rw [if_neg (by omega)]
      rfl
    · simp at hl
/-- Spans with a place. -/
abbrev F3 := Int × Int × Int
def sp3 (f : F3) : Sp := (f.1, f.2.1)
/-- In order of a number of theirs. -/
def Srt (key : F3 → Int) (l : List F3) : Prop := l.Pairwise fun a b => key a ≤ key b
/-- The middle of an insertion: the one that is inserted is greater than none behind it, and the others are in order. -/
theorem srt_stop {key : F3 → Int} {A C : List F3} {x : F3} (h : Srt key (A ++ C)) (h1 : ∀ c ∈ C, key x ≤ key c) (h2 : ∀ y, A.getLast? = some y → key y ≤ key x) : Srt key (A ++ x :: C) := by
  unfold Srt at h ⊢
  rw [List.pairwise_append] at h ⊢
  refine ⟨h.1, List.pairwise_cons.2 ⟨fun c hc => h1 c hc, h.2.1⟩, fun a ha b hb => ?_⟩
  rcases List.mem_cons.1 hb with rfl | hb
  · rcases List.eq_nil_or_concat A with rfl | ⟨A', y, rfl⟩
    · cases ha
    · rw [List.concat_eq_append] at ha h h2
      have hy := h2 y (by simp)
      rcases List.mem_append.1 ha with ha | ha
      · have := (List.pairwise_append.1 h.1).2.2 a ha y (by simp)
        omega
      · obtain rfl : a = y := by simpa using ha
        exact hy
  · exact h.2.2 a ha b hb
theorem srt_rise {l : List F3} (h : Srt (fun f => f.1) l) : Rise (l.map sp3) := by
  unfold Srt at h
  induction l with
  | nil => trivial
  | cons x l ih =>
    have h' := List.pairwise_cons.1 h
    refine ⟨fun y hy => ?_, ih h'.2⟩
    obtain ⟨z, hz, rfl⟩ := List.mem_map.1 hy
    exact h'.1 z hz
/-- One span more, in order: joined to the last one, or behind it. -/
def fstep (out : List F3) (f : F3) : List F3 :=
  match out.getLast? with
  | none => [f]
  | some y => if f.1 ≤ y.2.1 then out.dropLast ++ [(y.1, max y.2.1 f.2.1, min y.2.2 f.2.2)] else out ++ [f]
def foldG (l : List F3) : List F3 := l.foldl fstep []
theorem fstep_at (l : List F3) (y x : F3) : fstep (l ++ [y]) x = if x.1 ≤ y.2.1 then l ++ [(y.1, max y.2.1 x.2.1, min y.2.2 x.2.2)] else l ++ [y] ++ [x] := by
  unfold fstep; simp
theorem fstep_sp (out : List F3) (f : F3) : (fstep out f).map sp3 = gstep (out.map sp3) (sp3 f) := by
  rcases List.eq_nil_or_concat out with rfl | ⟨l, y, rfl⟩
  · rfl
  · rw [List.concat_eq_append, fstep_at, List.map_append, List.map_singleton, gstep_at]
    show List.map sp3 (if f.1 ≤ y.2.1 then _ else _) = if f.1 ≤ y.2.1 then _ else _
    split
    · simp [sp3]
    · simp [sp3]
theorem fold_sp (l : List F3) : (foldG l).map sp3 = gathL (l.map sp3) := by
  unfold foldG gathL
  have : ∀ (l : List F3) (out : List F3), (l.foldl fstep out).map sp3 = (l.map sp3).foldl gstep (out.map sp3) := by
    intro l
    induction l with
    | nil => intro out; rfl
    | cons x l ih => intro out; rw [List.foldl_cons, ih, fstep_sp, List.map_cons, List.foldl_cons]
  exact this l []
theorem fold_take {l : List F3} {k : Nat} (h : k < l.length) : foldG (l.take (k + 1)) = fstep (foldG (l.take k)) l[k] := by
  unfold foldG
  rw [List.take_add_one, List.getElem?_eq_getElem h, Option.toList_some, List.foldl_append]
  rfl
theorem fold_len (l : List F3) (k : Nat) : (foldG (l.take k)).length ≤ k := by
  have := gath_len (l.map sp3) k
  rw [← List.map_take, ← fold_sp, List.length_map] at this
  exact this
/-- Spans, with their places. -/
def zipP (l : List Sp) : List F3 := l.zipIdx.map fun x => (x.1.1, x.1.2, (x.2 : Int))
theorem zipP_len (l : List Sp) : (zipP l).length = l.length := by simp [zipP]
theorem zipP_sp (l : List Sp) : (zipP l).map sp3 = l := by
  unfold zipP
  rw [List.map_map]
  have : (sp3 ∘ fun x : Sp × Nat => (x.1.1, x.1.2, (x.2 : Int))) = fun x => x.1 := by funext x; rfl
  rw [this]
  exact List.zipIdx_map_fst 0 l
theorem zipP_at (l : List Sp) (k : Nat) (h : k < l.length) : (zipP l)[k]'(by rw [zipP_len]; exact h) = (l[k].1, l[k].2, (k : Int)) := by
  simp [zipP]
/-- What spans that are made fewer have to do with them. -/
def Folded (l r : List Sp) : Prop := r.length ≤ l.length ∧ (∀ x ∈ r, okS x) ∧ ∀ a, Cov r a ↔ Cov l a
theorem folded_of {l : List Sp} {s o : List F3} (hl : ∀ x ∈ l, okS x) (hs : s.Perm (zipP l)) (hr : Srt (fun f => f.1) s) (ho : o.Perm (foldG s)) : Folded l (o.map sp3) := by
  have hp : (s.map sp3).Perm l := by have := hs.map sp3; rwa [zipP_sp] at this
  have hok : ∀ x ∈ s.map sp3, okS x := fun x hx => hl x (hp.mem_iff.1 hx)
  have hq : (o.map sp3).Perm (gathL (s.map sp3)) := by have := ho.map sp3; rwa [fold_sp] at this
  refine ⟨?_, fun x hx => ?_, fun a => ?_⟩
  · have h1 := gath_len (s.map sp3) s.length
    rw [List.take_of_length_le (by rw [List.length_map]; exact Nat.le_refl _)] at h1
    rw [hq.length_eq]
    have h2 := hs.length_eq
    rw [zipP_len] at h2
    omega
  · exact nf_ok (gath_nf hok (srt_rise hr)) x (hq.mem_iff.1 hx)
  · rw [cov_perm hq, gath_cov hok (srt_rise hr), cov_perm hp]
theorem folded_in {l r : List Sp} {hv : Int} (h : Folded l r) (hl : ∀ x ∈ l, x.2 ≤ hv) : ∀ x ∈ r, x.2 ≤ hv := by
  intro x hx
  have ho := h.2.1 x hx
  obtain ⟨y, hy, h1, h2⟩ := (h.2.2 (x.2 - 1)).1 ⟨x, hx, by have := ho.2.1; omega, by omega⟩
  have := hl y hy
  omega
theorem folded_nil {r : List Sp} (h : Folded [] r) : r = [] := List.eq_nil_of_length_eq_zero (by have := h.1; simpa using this)
theorem folded_ne {l r : List Sp} (h : Folded l r) (hl : ∀ x ∈ l, okS x) (hne : l ≠ []) : r ≠ [] := by
  rintro rfl
  rcases l with _ | ⟨x, l⟩
  · exact hne rfl
  · have ho := hl x (by simp)
    have := (h.2.2 x.1).2 ⟨x, by simp, by omega, ho.2.1⟩
    exact cov_nil _ this

end Go.Proofs.YtfcbmajogmojbaaGreatDoor
