/-
  What is told of bytes, run by run: plain words.
-/
import Derived.Test.YtfcbmajogmojbaaDoorRngM
namespace Go.Proofs.YtfcbmajogmojbaaDoor
set_option linter.unusedVariables false

abbrev Rn := Sp × Int
/-- Rising, none empty; two that touch tell different things. -/
def RNf : List Rn → Prop
  | [] => True
  | r :: l => okS r.1 ∧ (∀ q ∈ l, r.1.2 ≤ q.1.1 ∧ (r.1.2 = q.1.1 → r.2 ≠ q.2)) ∧ RNf l
/-- The spans of which one thing is told. -/
def ofR (v : Int) (l : List Rn) : List Sp := (l.filter fun r => r.2 == v).map (·.1)
/-- A byte of which a thing is told. -/
def RC (u : Int) (l : List Rn) (a : Int) : Prop := ∃ r ∈ l, r.2 = u ∧ r.1.1 ≤ a ∧ a < r.1.2
theorem cov_of {v : Int} {l : List Rn} {a : Int} : Cov (ofR v l) a ↔ RC v l a := by
  unfold Cov ofR RC
  constructor
  · rintro ⟨s, hs, h⟩
    obtain ⟨r, hr, rfl⟩ := List.mem_map.1 hs
    obtain ⟨h1, h2⟩ := List.mem_filter.1 hr
    exact ⟨r, h1, by simpa using h2, h⟩
  · rintro ⟨r, hr, h1, h⟩
    exact ⟨r.1, List.mem_map.2 ⟨r, List.mem_filter.2 ⟨hr, by simpa using h1⟩, rfl⟩, h⟩
theorem rc_nil (u a : Int) : ¬ RC u [] a := by rintro ⟨s, h, _⟩; cases h
theorem rc_app {u a : Int} {l m : List Rn} : RC u (l ++ m) a ↔ RC u l a ∨ RC u m a := by
  unfold RC
  constructor
  · rintro ⟨s, h, h1⟩
    rcases List.mem_append.1 h with h | h
    · exact .inl ⟨s, h, h1⟩
    · exact .inr ⟨s, h, h1⟩
  · rintro (⟨s, h, h1⟩ | ⟨s, h, h1⟩)
    · exact ⟨s, List.mem_append_left _ h, h1⟩
    · exact ⟨s, List.mem_append_right _ h, h1⟩
theorem rc_one {u a : Int} {r : Rn} : RC u [r] a ↔ r.2 = u ∧ r.1.1 ≤ a ∧ a < r.1.2 := by
  unfold RC
  exact ⟨fun ⟨s, h, h1⟩ => (List.mem_singleton.1 h) ▸ h1, fun h => ⟨r, List.mem_singleton.2 rfl, h⟩⟩
theorem rnf_ok {l : List Rn} (h : RNf l) : ∀ r ∈ l, okS r.1 := by
  induction l with
  | nil => intro x h; cases h
  | cons y l ih =>
    intro x hx
    rcases List.mem_cons.1 hx with rfl | hx
    · exact h.1
    · exact ih h.2.2 x hx
theorem rnf_app {l m : List Rn} : RNf (l ++ m) ↔ RNf l ∧ RNf m ∧ ∀ r ∈ l, ∀ q ∈ m, r.1.2 ≤ q.1.1 ∧ (r.1.2 = q.1.1 → r.2 ≠ q.2) := by
  induction l with
  | nil => simp [RNf]
  | cons x l ih =>
    simp only [List.cons_append, RNf, ih, List.mem_append, List.mem_cons]
    constructor
    · rintro ⟨h1, h2, h3, h4, h5⟩
      refine ⟨⟨h1, fun y hy => h2 y (.inl hy), h3⟩, h4, ?_⟩
      rintro z (rfl | hz) y hy
      · exact h2 y (.inr hy)
      · exact h5 z hz y hy
    · rintro ⟨⟨h1, h2, h3⟩, h4, h5⟩
      exact ⟨h1, fun y hy => hy.elim (h2 y) (h5 x (.inl rfl) y), h3, h4, fun z hz => h5 z (.inr hz)⟩
theorem rnf_one {r : Rn} (h : okS r.1) : RNf [r] := ⟨h, fun q h => (by cases h), trivial⟩
theorem of_nf {v : Int} {l : List Rn} (h : RNf l) : Nf (ofR v l) := by
  induction l with
  | nil => trivial
  | cons r l ih =>
    unfold ofR
    rw [List.filter_cons]
    split
    · rename_i hv
      refine ⟨h.1, fun y hy => ?_, ih h.2.2⟩
      obtain ⟨q, hq, rfl⟩ := List.mem_map.1 hy
      obtain ⟨h1, h2⟩ := List.mem_filter.1 hq
      have := h.2.1 q h1
      have e : r.2 = q.2 := by rw [beq_iff_eq.1 hv, beq_iff_eq.1 h2]
      have h5 := this.2
      have h6 := this.1
      show r.1.2 < q.1.1
      omega
    · exact ih h.2.2

/-- A run behind others, as a part of the last one, if that touches it and tells the same. -/
def pushR (l : List Rn) (r : Rn) : List Rn :=
  match l.getLast? with
  | some y => if y.1.2 = r.1.1 ∧ y.2 = r.2 then l.dropLast ++ [((y.1.1, r.1.2), y.2)] else l ++ [r]
  | none => l ++ [r]
theorem push_nil (r : Rn) : pushR [] r = [r] := rfl
theorem push_at (l : List Rn) (y r : Rn) : pushR (l ++ [y]) r = if y.1.2 = r.1.1 ∧ y.2 = r.2 then l ++ [((y.1.1, r.1.2), y.2)] else l ++ [y] ++ [r] := by
  unfold pushR; rw [List.getLast?_append, List.dropLast_concat]; rfl
theorem push_len (l : List Rn) (r : Rn) : (pushR l r).length ≤ l.length + 1 := by
  rcases List.eq_nil_or_concat l with rfl | ⟨l, y, rfl⟩
  · simp [pushR]
  · rw [List.concat_eq_append, push_at]; split <;> simp
theorem push_nf {l : List Rn} {r : Rn} (h : RNf l) (hr : okS r.1) (hb : ∀ q ∈ l, q.1.2 ≤ r.1.1) : RNf (pushR l r) := by
  rcases List.eq_nil_or_concat l with rfl | ⟨l, y, rfl⟩
  · exact rnf_one hr
  · rw [List.concat_eq_append] at h hb ⊢
    have hy := hb y (by simp)
    rw [push_at]
    obtain ⟨h1, h2, h3⟩ := rnf_app.1 h
    have ho := h2.1
    unfold okS at ho hr
    split
    · rename_i e
      refine rnf_app.2 ⟨h1, rnf_one ⟨ho.1, by simp only; omega, hr.2.2⟩, fun z hz w hw => ?_⟩
      rcases List.mem_singleton.1 hw with rfl
      exact h3 z hz y (by simp)
    · rename_i e
      refine rnf_app.2 ⟨h, rnf_one hr, fun z hz w hw => ?_⟩
      rcases List.mem_singleton.1 hw with rfl
      rcases List.mem_append.1 hz with hz | hz
      · have := (h3 z hz y (by simp)).1
        exact ⟨by omega, by omega⟩
      · rcases List.mem_singleton.1 hz with rfl
        exact ⟨hy, fun e1 e2 => e ⟨e1, e2⟩⟩
theorem push_rc {l : List Rn} {r : Rn} (h : RNf l) (hr : okS r.1) (u a : Int) : RC u (pushR l r) a ↔ RC u l a ∨ (r.2 = u ∧ r.1.1 ≤ a ∧ a < r.1.2) := by
  rcases List.eq_nil_or_concat l with rfl | ⟨l, y, rfl⟩
  · rw [push_nil, rc_one]; exact ⟨.inr, fun h => h.resolve_left (rc_nil _ _)⟩
  · rw [List.concat_eq_append] at h ⊢
    rw [push_at]
    obtain ⟨h1, h2, h3⟩ := rnf_app.1 h
    have ho := h2.1
    unfold okS at ho hr
    split
    · rename_i e
      simp only [rc_app, rc_one]
      constructor
      · rintro (h | h)
        · exact .inl (.inl h)
        · by_cases h4 : a < y.1.2
          · exact .inl (.inr ⟨h.1, h.2.1, h4⟩)
          · exact .inr ⟨by omega, by omega, h.2.2⟩
      · rintro ((h | h) | h)
        · exact .inl h
        · exact .inr ⟨h.1, h.2.1, by omega⟩
        · exact .inr ⟨by omega, by omega, h.2.2⟩
    · simp only [rc_app, rc_one]
theorem push_hi {l : List Rn} {r : Rn} (hr : okS r.1) (hb : ∀ q ∈ l, q.1.2 ≤ r.1.1) : ∀ q ∈ pushR l r, q.1.2 ≤ r.1.2 := by
  unfold okS at hr
  rcases List.eq_nil_or_concat l with rfl | ⟨l, y, rfl⟩
  · intro q hq
    rcases List.mem_singleton.1 hq with rfl
    exact Int.le_refl _
  · rw [List.concat_eq_append] at hb ⊢
    rw [push_at]
    split
    · intro q hq
      rcases List.mem_append.1 hq with hq | hq
      · have := hb q (by simp [hq]); omega
      · rcases List.mem_singleton.1 hq with rfl
        exact Int.le_refl _
    · intro q hq
      rcases List.mem_append.1 hq with hq | hq
      · have := hb q hq; omega
      · rcases List.mem_singleton.1 hq with rfl
        exact Int.le_refl _
theorem push_val {l : List Rn} {r : Rn} {P : Int → Prop} (hl : ∀ q ∈ l, P q.2) (hr : P r.2) : ∀ q ∈ pushR l r, P q.2 := by
  rcases List.eq_nil_or_concat l with rfl | ⟨l, y, rfl⟩
  · intro q hq
    rcases List.mem_singleton.1 hq with rfl
    exact hr
  · rw [List.concat_eq_append] at hl ⊢
    rw [push_at]
    split
    · intro q hq
      rcases List.mem_append.1 hq with hq | hq
      · exact hl q (by simp [hq])
      · rcases List.mem_singleton.1 hq with rfl
        exact hl y (by simp)
    · intro q hq
      rcases List.mem_append.1 hq with hq | hq
      · exact hl q hq
      · rcases List.mem_singleton.1 hq with rfl
        exact hr

/-- One run, as Put goes by it: what there is by now, and whether it was put. -/
def put1 (s : Sp) (o : List Rn) (r : Rn) : List Rn := if r.1.1 < s.1 then pushR o ((r.1.1, min r.1.2 s.1), r.2) else o
def put2 (s : Sp) (v : Int) (o : List Rn) (b : Bool) (r : Rn) : List Rn := if b = false ∧ s.1 < r.1.2 then pushR o (s, v) else o
def put3 (s : Sp) (o : List Rn) (r : Rn) : List Rn := if s.2 < r.1.2 then pushR o ((max r.1.1 s.2, r.1.2), r.2) else o
def putS (s : Sp) (v : Int) (x : List Rn × Bool) (r : Rn) : List Rn × Bool := (put3 s (put2 s v (put1 s x.1 r) x.2 r) r, x.2 || decide (s.1 < r.1.2))
def putF (s : Sp) (v : Int) (l : List Rn) : List Rn × Bool := l.foldl (putS s v) ([], false)
def putR (s : Sp) (v : Int) (l : List Rn) : List Rn := if (putF s v l).2 then (putF s v l).1 else pushR (putF s v l).1 (s, v)
structure PutI (s : Sp) (v : Int) (pre : List Rn) (o : List Rn) (b : Bool) : Prop where
  nf : RNf o
  rc : ∀ u a, RC u o a ↔ (RC u pre a ∧ ¬ (s.1 ≤ a ∧ a < s.2)) ∨ (b = true ∧ v = u ∧ s.1 ≤ a ∧ a < s.2)
  no : b = false → ∀ p ∈ pre, p.1.2 ≤ s.1
  yes : b = true → ∃ p ∈ pre, s.1 < p.1.2
  hi0 : b = false → ∀ c, (∀ p ∈ pre, p.1.2 ≤ c) → ∀ q ∈ o, q.1.2 ≤ c ∧ q.1.2 ≤ s.1
  hi1 : b = true → ∀ c, (∀ p ∈ pre, p.1.2 ≤ c) → ∀ q ∈ o, q.1.2 ≤ max c s.2
  len0 : (∀ p ∈ pre, p.1.2 ≤ s.2) → o.length ≤ pre.length + (if b then 1 else 0)
  len1 : o.length ≤ pre.length + 1 + (if b then 1 else 0)
theorem PutI.step {s : Sp} {v : Int} {pre o : List Rn} {b : Bool} (h : PutI s v pre o b) (hs : okS s) {r : Rn} (hr : okS r.1) (hp : ∀ p ∈ pre, p.1.2 ≤ r.1.1) :
    PutI s v (pre ++ [r]) (putS s v (o, b) r).1 (putS s v (o, b) r).2 := by
  obtain ⟨hnf, hrc, hno, hyes, hhi0, hhi1, hl0, hl1⟩ := h
  have hs' := hs
  have hr' := hr
  unfold okS at hs' hr'
  have hpre : ∀ c, (∀ p ∈ pre ++ [r], p.1.2 ≤ c) → r.1.2 ≤ c := fun c h => h r (by simp)
  cases b with
  | false =>
    have hno := hno rfl
    have hq := hhi0 rfl r.1.1 hp
    -- the piece ahead
    have A : RNf (put1 s o r) ∧ (∀ u a, RC u (put1 s o r) a ↔ RC u o a ∨ (r.2 = u ∧ r.1.1 ≤ a ∧ a < r.1.2 ∧ a < s.1)) ∧ (∀ q ∈ put1 s o r, q.1.2 ≤ r.1.2 ∧ q.1.2 ≤ s.1) ∧ (put1 s o r).length ≤ o.length + (if r.1.1 < s.1 then 1 else 0) := by
      unfold put1
      split
      · have hk : okS (r.1.1, min r.1.2 s.1) := ⟨hr'.1, by simp only; omega, by simp only; omega⟩
        refine ⟨push_nf hnf hk fun q h => (hq q h).1, fun u a => ?_, fun q h => ?_, push_len _ _⟩
        · rw [push_rc hnf hk]
          simp only
          constructor
          · rintro (h1 | h1)
            · exact .inl h1
            · exact .inr (by omega)
          · rintro (h1 | h1)
            · exact .inl h1
            · exact .inr (by omega)
        · have := push_hi (r := ((r.1.1, min r.1.2 s.1), r.2)) hk (fun q h => (hq q h).1) q h
          simp only at this
          omega
      · refine ⟨hnf, fun u a => ⟨.inl, fun h1 => h1.resolve_right (by omega)⟩, fun q h => ?_, by simp⟩
        have := hq q h; omega
    obtain ⟨a1, a2, a3, a4⟩ := A
    by_cases hin : s.1 < r.1.2
    · have e2 : put2 s v (put1 s o r) false r = pushR (put1 s o r) (s, v) := if_pos ⟨rfl, hin⟩
      have eb : (putS s v (o, false) r).2 = true := by simp [putS, hin]
      have eo : (putS s v (o, false) r).1 = put3 s (pushR (put1 s o r) (s, v)) r := by simp only [putS, e2]
      have b1 := push_nf a1 (r := (s, v)) hs (fun q h => (a3 q h).2)
      have b2 := push_rc a1 (r := (s, v)) hs
      have b3 := push_hi (r := (s, v)) hs (fun q h => (a3 q h).2)
      have b4 := push_len (put1 s o r) (s, v)
      simp only at b2 b3
      rw [eb, eo]
      have C : RNf (put3 s (pushR (put1 s o r) (s, v)) r) ∧ (∀ u a, RC u (put3 s (pushR (put1 s o r) (s, v)) r) a ↔ RC u (pushR (put1 s o r) (s, v)) a ∨ (r.2 = u ∧ r.1.1 ≤ a ∧ a < r.1.2 ∧ s.2 ≤ a)) ∧ (∀ q ∈ put3 s (pushR (put1 s o r) (s, v)) r, q.1.2 ≤ max r.1.2 s.2) ∧ (put3 s (pushR (put1 s o r) (s, v)) r).length ≤ (pushR (put1 s o r) (s, v)).length + (if s.2 < r.1.2 then 1 else 0) := by
        unfold put3
        split
        · have hk : okS (max r.1.1 s.2, r.1.2) := ⟨by simp only; omega, by simp only; omega, hr'.2.2⟩
          have hb : ∀ q ∈ pushR (put1 s o r) (s, v), q.1.2 ≤ max r.1.1 s.2 := fun q h => by have := b3 q h; omega
          refine ⟨push_nf (r := ((max r.1.1 s.2, r.1.2), r.2)) b1 hk hb, fun u a => ?_, fun q h => ?_, push_len _ _⟩
          · rw [push_rc b1 hk]
            simp only
            constructor
            · rintro (h1 | h1)
              · exact .inl h1
              · exact .inr (by omega)
            · rintro (h1 | h1)
              · exact .inl h1
              · exact .inr (by omega)
          · have := push_hi (r := ((max r.1.1 s.2, r.1.2), r.2)) hk hb q h
            simp only at this
            omega
        · refine ⟨b1, fun u a => ⟨.inl, fun h1 => h1.resolve_right (by omega)⟩, fun q h => ?_, by simp⟩
          have := b3 q h; omega
      obtain ⟨c1, c2, c3, c4⟩ := C
      refine ⟨c1, fun u a => ?_, fun h => (by cases h), fun _ => ⟨r, by simp, hin⟩, fun h => (by cases h), fun _ c hc q hq => ?_, fun hle => ?_, ?_⟩
      · rw [c2, b2, a2, hrc, rc_app, rc_one]
        have hx : RC u pre a → a < s.1 := by
          rintro ⟨p, hp, _, _, h2⟩
          have := hno p hp
          omega
        simp only [Bool.false_eq_true, false_and, or_false, true_and]
        constructor
        · rintro (((h1 | h1) | h1) | h1)
          · exact .inl ⟨.inl h1.1, h1.2⟩
          · exact .inl ⟨.inr ⟨h1.1, h1.2.1, h1.2.2.1⟩, by omega⟩
          · exact .inr h1
          · exact .inl ⟨.inr ⟨h1.1, h1.2.1, h1.2.2.1⟩, by omega⟩
        · rintro (⟨h1 | h1, h2⟩ | h1)
          · exact .inl (.inl (.inl ⟨h1, h2⟩))
          · by_cases h3 : a < s.1
            · exact .inl (.inl (.inr ⟨h1.1, h1.2.1, h1.2.2, h3⟩))
            · exact .inr ⟨h1.1, h1.2.1, h1.2.2, by omega⟩
          · exact .inl (.inr h1)
      · have := c3 q hq
        have := hpre c hc
        omega
      · have hle' : ∀ p ∈ pre, p.1.2 ≤ s.2 := fun p h => hle p (by simp [h])
        have hrle := hpre _ hle
        have := hl0 hle'
        simp only [List.length_append, List.length_cons, List.length_nil]
        simp only [Bool.false_eq_true, if_false, if_true] at this ⊢
        rw [if_neg (by omega)] at c4
        split at a4 <;> omega
      · have hle' : ∀ p ∈ pre, p.1.2 ≤ s.2 := fun p h => by have := hno p h; omega
        have := hl0 hle'
        simp only [List.length_append, List.length_cons, List.length_nil]
        simp only [Bool.false_eq_true, if_false, if_true] at this ⊢
        split at a4 <;> split at c4 <;> omega
    · have e2 : put2 s v (put1 s o r) false r = put1 s o r := if_neg (by omega)
      have e3 : put3 s (put1 s o r) r = put1 s o r := if_neg (by omega)
      have eb : (putS s v (o, false) r).2 = false := by simp [putS, hin]
      have eo : (putS s v (o, false) r).1 = put1 s o r := by simp only [putS, e2, e3]
      rw [eb, eo]
      refine ⟨a1, fun u a => ?_, fun _ p hp => ?_, fun h => (by cases h), fun _ c hc q hq => ?_, fun h => (by cases h), fun hle => ?_, ?_⟩
      · rw [a2, hrc, rc_app, rc_one]
        simp only [Bool.false_eq_true, false_and, or_false]
        constructor
        · rintro (h1 | h1)
          · exact ⟨.inl h1.1, h1.2⟩
          · exact ⟨.inr ⟨h1.1, h1.2.1, h1.2.2.1⟩, by omega⟩
        · rintro ⟨h1 | h1, h2⟩
          · exact .inl ⟨h1, h2⟩
          · exact .inr ⟨h1.1, h1.2.1, h1.2.2, by omega⟩
      · rcases List.mem_append.1 hp with hp | hp
        · exact hno p hp
        · rcases List.mem_singleton.1 hp with rfl
          omega
      · have := a3 q hq
        have := hpre c hc
        omega
      · have hle' : ∀ p ∈ pre, p.1.2 ≤ s.2 := fun p h => hle p (by simp [h])
        have := hl0 hle'
        simp only [List.length_append, List.length_cons, List.length_nil]
        simp only [Bool.false_eq_true, if_false] at this ⊢
        split at a4 <;> omega
      · simp only [List.length_append, List.length_cons, List.length_nil]
        simp only [Bool.false_eq_true, if_false] at hl1 ⊢
        split at a4 <;> omega
  | true =>
    obtain ⟨p0, hp0, hlt0⟩ := hyes rfl
    have hge := hp p0 hp0
    have e1 : put1 s o r = o := if_neg (by omega)
    have e2 : put2 s v o true r = o := if_neg (by rintro ⟨h, _⟩; cases h)
    have eb : (putS s v (o, true) r).2 = true := by simp [putS]
    have eo : (putS s v (o, true) r).1 = put3 s o r := by simp only [putS, e1, e2]
    have b3 := hhi1 rfl r.1.1 hp
    rw [eb, eo]
    have C : RNf (put3 s o r) ∧ (∀ u a, RC u (put3 s o r) a ↔ RC u o a ∨ (r.2 = u ∧ r.1.1 ≤ a ∧ a < r.1.2 ∧ s.2 ≤ a)) ∧ (∀ q ∈ put3 s o r, q.1.2 ≤ max r.1.2 s.2) ∧ (put3 s o r).length ≤ o.length + (if s.2 < r.1.2 then 1 else 0) := by
      unfold put3
      split
      · have hk : okS (max r.1.1 s.2, r.1.2) := ⟨by simp only; omega, by simp only; omega, hr'.2.2⟩
        refine ⟨push_nf (r := ((max r.1.1 s.2, r.1.2), r.2)) hnf hk b3, fun u a => ?_, fun q h => ?_, push_len _ _⟩
        · rw [push_rc hnf hk]
          simp only
          constructor
          · rintro (h1 | h1)
            · exact .inl h1
            · exact .inr (by omega)
          · rintro (h1 | h1)
            · exact .inl h1
            · exact .inr (by omega)
        · have := push_hi (r := ((max r.1.1 s.2, r.1.2), r.2)) hk b3 q h
          simp only at this
          omega
      · refine ⟨hnf, fun u a => ⟨.inl, fun h1 => h1.resolve_right (by omega)⟩, fun q h => ?_, by simp⟩
        have := b3 q h; omega
    obtain ⟨c1, c2, c3, c4⟩ := C
    refine ⟨c1, fun u a => ?_, fun h => (by cases h), fun _ => ⟨p0, by simp [hp0], hlt0⟩, fun h => (by cases h), fun _ c hc q hq => ?_, fun hle => ?_, ?_⟩
    · rw [c2, hrc, rc_app, rc_one]
      simp only [true_and]
      constructor
      · rintro ((h1 | h1) | h1)
        · exact .inl ⟨.inl h1.1, h1.2⟩
        · exact .inr h1
        · exact .inl ⟨.inr ⟨h1.1, h1.2.1, h1.2.2.1⟩, by omega⟩
      · rintro (⟨h1 | h1, h2⟩ | h1)
        · exact .inl (.inl ⟨h1, h2⟩)
        · exact .inr ⟨h1.1, h1.2.1, h1.2.2, by omega⟩
        · exact .inl (.inr h1)
    · have := c3 q hq
      have := hpre c hc
      omega
    · have hle' : ∀ p ∈ pre, p.1.2 ≤ s.2 := fun p h => hle p (by simp [h])
      have hrle := hpre _ hle
      have := hl0 hle'
      simp only [List.length_append, List.length_cons, List.length_nil]
      simp only [if_true] at this ⊢
      rw [if_neg (by omega)] at c4
      omega
    · simp only [List.length_append, List.length_cons, List.length_nil]
      simp only [if_true] at hl1 ⊢
      split at c4 <;> omega
theorem putF_take {s : Sp} {v : Int} {l : List Rn} {k : Nat} (h : k < l.length) : putF s v (l.take (k + 1)) = putS s v (putF s v (l.take k)) l[k] := by
  unfold putF; rw [List.take_succ_eq_append_getElem h, List.foldl_append]; rfl
theorem rnf_ahead {l : List Rn} (h : RNf l) {k : Nat} (hk : k < l.length) : ∀ p ∈ l.take k, p.1.2 ≤ l[k].1.1 := by
  intro p hp
  have e : l = l.take k ++ l.drop k := (List.take_append_drop k l).symm
  rw [e] at h
  exact ((rnf_app.1 h).2.2 p hp l[k] (by rw [List.drop_eq_getElem_cons hk]; exact List.mem_cons_self ..)).1
theorem putF_inv {s : Sp} {v : Int} {l : List Rn} (h : RNf l) (hs : okS s) : ∀ k, k ≤ l.length → PutI s v (l.take k) (putF s v (l.take k)).1 (putF s v (l.take k)).2
  | 0, _ => by
    refine ⟨trivial, fun u a => ?_, fun _ p h => (by simp at h), fun h => by simp [putF] at h, fun _ c _ q h => by simp [putF] at h, fun h => by simp [putF] at h, fun _ => by simp [putF], by simp [putF]⟩
    simp [putF, rc_nil]
  | k + 1, hk => by
    have hk' : k < l.length := hk
    have ih := putF_inv (v := v) h hs k (by omega)
    have st := ih.step hs (rnf_ok h l[k] (List.getElem_mem hk')) (rnf_ahead h hk')
    rw [putF_take hk', List.take_succ_eq_append_getElem hk']
    exact st
theorem putF_all {s : Sp} {v : Int} {l : List Rn} (h : RNf l) (hs : okS s) : PutI s v l (putF s v l).1 (putF s v l).2 := by
  have := putF_inv (v := v) h hs l.length (Nat.le_refl _)
  rwa [List.take_length] at this
theorem putF_len {s : Sp} {v : Int} {l : List Rn} (h : RNf l) (hs : okS s) {k : Nat} (hk : k ≤ l.length) : (putF s v (l.take k)).1.length ≤ k + 2 := by
  have := (putF_inv (v := v) h hs k hk).len1
  rw [List.length_take] at this
  split at this <;> omega
theorem put_nf {s : Sp} {v : Int} {l : List Rn} (h : RNf l) (hs : okS s) : RNf (putR s v l) := by
  have I := putF_all (v := v) h hs
  unfold putR
  split
  · exact I.nf
  · rename_i hb
    have hb := Bool.eq_false_iff.2 hb
    exact push_nf I.nf hs fun q hq => (I.hi0 hb s.1 (I.no hb) q hq).1
theorem put_rc {s : Sp} {v : Int} {l : List Rn} (h : RNf l) (hs : okS s) (u a : Int) : RC u (putR s v l) a ↔ (RC u l a ∧ ¬ (s.1 ≤ a ∧ a < s.2)) ∨ (v = u ∧ s.1 ≤ a ∧ a < s.2) := by
  have I := putF_all (v := v) h hs
  unfold putR
  split
  · rename_i hb
    rw [I.rc, hb]; simp
  · rename_i hb
    have hb := Bool.eq_false_iff.2 hb
    rw [push_rc I.nf hs, I.rc, hb]; simp
theorem put_len {s : Sp} {v : Int} {l : List Rn} (h : RNf l) (hs : okS s) : (putR s v l).length ≤ l.length + 2 := by
  have I := (putF_all (v := v) h hs).len1
  unfold putR
  split
  · rename_i hb
    rw [if_pos hb] at I; omega
  · rename_i hb
    rw [if_neg hb] at I
    have := push_len (putF s v l).1 (s, v)
    omega
theorem put_val {s : Sp} {v : Int} {l : List Rn} {P : Int → Prop} (hl : ∀ q ∈ l, P q.2) (hv : P v) : ∀ q ∈ putR s v l, P q.2 := by
  have H : ∀ (m o : List Rn) (b : Bool), (∀ q ∈ m, P q.2) → (∀ q ∈ o, P q.2) → ∀ q ∈ (m.foldl (putS s v) (o, b)).1, P q.2 := by
    intro m
    induction m with
    | nil => intro o b _ ho; exact ho
    | cons r m ih =>
      intro o b hm ho
      rw [List.foldl_cons]
      refine ih _ _ (fun q hq => hm q (List.mem_cons_of_mem _ hq)) ?_
      have hr := hm r (List.mem_cons_self ..)
      have h1 : ∀ q ∈ put1 s o r, P q.2 := by unfold put1; split <;> first | exact ho | exact push_val ho hr
      have h2 : ∀ q ∈ put2 s v (put1 s o r) b r, P q.2 := by unfold put2; split <;> first | exact h1 | exact push_val h1 hv
      unfold put3; split <;> first | exact h2 | exact push_val h2 hr
  have := H l [] false hl (fun q h => by cases h)
  unfold putR putF
  split
  · exact this
  · exact push_val this hv

/-- One run, as Drop goes by it. -/
def drop1 (s : Sp) (r : Rn) : List Rn := (if r.1.1 < s.1 then [((r.1.1, min r.1.2 s.1), r.2)] else []) ++ (if s.2 < r.1.2 then [((max r.1.1 s.2, r.1.2), r.2)] else [])
def dropR (s : Sp) (l : List Rn) : List Rn := l.flatMap (drop1 s)
theorem drop_take {s : Sp} {l : List Rn} {k : Nat} (h : k < l.length) : dropR s (l.take (k + 1)) = dropR s (l.take k) ++ drop1 s l[k] := by
  unfold dropR; rw [List.take_succ_eq_append_getElem h, List.flatMap_append]; simp
theorem drop1_mem {s : Sp} (hs : okS s) {r : Rn} (hr : okS r.1) : ∀ q ∈ drop1 s r, okS q.1 ∧ q.2 = r.2 ∧ r.1.1 ≤ q.1.1 ∧ q.1.2 ≤ r.1.2 := by
  unfold okS at hs hr
  intro q hq
  unfold drop1 at hq
  rcases List.mem_append.1 hq with hq | hq
  · split at hq
    · rcases List.mem_singleton.1 hq with rfl
      unfold okS
      simp only
      exact ⟨by omega, trivial, by omega, by omega⟩
    · cases hq
  · split at hq
    · rcases List.mem_singleton.1 hq with rfl
      unfold okS
      simp only
      exact ⟨by omega, trivial, by omega, by omega⟩
    · cases hq
theorem drop1_nf {s : Sp} (hs : okS s) {r : Rn} (hr : okS r.1) : RNf (drop1 s r) := by
  have hs' := hs
  have hr' := hr
  unfold okS at hs' hr'
  unfold drop1
  refine rnf_app.2 ⟨?_, ?_, ?_⟩
  · split
    · exact rnf_one ⟨hr'.1, by simp only; omega, by simp only; omega⟩
    · trivial
  · split
    · exact rnf_one ⟨by simp only; omega, by simp only; omega, hr'.2.2⟩
    · trivial
  · intro p hp q hq
    split at hp
    · rcases List.mem_singleton.1 hp with rfl
      split at hq
      · rcases List.mem_singleton.1 hq with rfl
        simp only
        exact ⟨by omega, by omega⟩
      · cases hq
    · cases hp
theorem drop1_rc {s : Sp} (hs : okS s) {r : Rn} (u a : Int) : RC u (drop1 s r) a ↔ (r.2 = u ∧ r.1.1 ≤ a ∧ a < r.1.2) ∧ ¬ (s.1 ≤ a ∧ a < s.2) := by
  unfold okS at hs
  unfold drop1
  rw [rc_app]
  have h1 : RC u (if r.1.1 < s.1 then [((r.1.1, min r.1.2 s.1), r.2)] else []) a ↔ r.2 = u ∧ r.1.1 ≤ a ∧ a < r.1.2 ∧ a < s.1 := by
    split
    · rw [rc_one]; simp only; omega
    · exact ⟨fun h => absurd h (rc_nil _ _), fun h => by omega⟩
  have h2 : RC u (if s.2 < r.1.2 then [((max r.1.1 s.2, r.1.2), r.2)] else []) a ↔ r.2 = u ∧ r.1.1 ≤ a ∧ a < r.1.2 ∧ s.2 ≤ a := by
    split
    · rw [rc_one]; simp only; omega
    · exact ⟨fun h => absurd h (rc_nil _ _), fun h => by omega⟩
  rw [h1, h2]
  omega
theorem drop_nf {s : Sp} (hs : okS s) : ∀ {l : List Rn}, RNf l → RNf (dropR s l)
  | [], _ => trivial
  | r :: l, h => by
    unfold dropR
    rw [List.flatMap_cons]
    refine rnf_app.2 ⟨drop1_nf hs h.1, drop_nf hs h.2.2, fun p hp q hq => ?_⟩
    obtain ⟨x, hx, hq⟩ := List.mem_flatMap.1 hq
    have a1 := drop1_mem hs h.1 p hp
    have a2 := drop1_mem hs (rnf_ok h.2.2 x hx) q hq
    have := h.2.1 x hx
    refine ⟨by omega, fun e => ?_⟩
    rw [a1.2.1, a2.2.1]
    exact this.2 (by omega)
theorem drop_rc {s : Sp} (hs : okS s) (l : List Rn) (u a : Int) : RC u (dropR s l) a ↔ RC u l a ∧ ¬ (s.1 ≤ a ∧ a < s.2) := by
  induction l with
  | nil => exact ⟨fun h => absurd h (rc_nil _ _), fun h => absurd h.1 (rc_nil _ _)⟩
  | cons r l ih =>
    unfold dropR
    rw [List.flatMap_cons, rc_app, drop1_rc hs, show l.flatMap (drop1 s) = dropR s l from rfl, ih, show r :: l = [r] ++ l from rfl, rc_app, rc_one]
    constructor
    · rintro (h | h)
      · exact ⟨.inl h.1, h.2⟩
      · exact ⟨.inr h.1, h.2⟩
    · rintro ⟨h | h, h2⟩
      · exact .inl ⟨h, h2⟩
      · exact .inr ⟨h, h2⟩
theorem drop_len0 {s : Sp} (hs : okS s) : ∀ {l : List Rn}, RNf l → (∀ r ∈ l, s.1 ≤ r.1.1) → (dropR s l).length ≤ l.length
  | [], _, _ => by simp [dropR]
  | r :: l, h, hlo => by
    have ih := drop_len0 hs h.2.2 fun q hq => hlo q (List.mem_cons_of_mem _ hq)
    have := hlo r (List.mem_cons_self ..)
    unfold dropR at ih ⊢
    have h1 : (drop1 s r).length ≤ 1 := by unfold drop1; rw [if_neg (by omega), List.nil_append]; split <;> simp
    rw [List.flatMap_cons, List.length_append, List.length_cons]
    omega
theorem drop_len {s : Sp} (hs : okS s) : ∀ {l : List Rn}, RNf l → (dropR s l).length ≤ l.length + 1
  | [], _ => by simp [dropR]
  | r :: l, h => by
    have ih := drop_len hs h.2.2
    have hs' := hs
    unfold okS at hs'
    have hr := h.1
    unfold okS at hr
    by_cases hb : s.1 < r.1.2
    · have i0 := drop_len0 hs h.2.2 fun q hq => by have := (h.2.1 q hq).1; omega
      have h1 : (drop1 s r).length ≤ 2 := by unfold drop1; split <;> split <;> simp
      unfold dropR at i0 ⊢
      rw [List.flatMap_cons, List.length_append, List.length_cons]
      omega
    · have h1 : (drop1 s r).length ≤ 1 := by unfold drop1; rw [if_neg (c := s.2 < r.1.2) (by omega), List.append_nil]; split <;> simp
      unfold dropR at ih ⊢
      rw [List.flatMap_cons, List.length_append, List.length_cons]
      omega
theorem rnf_take {l : List Rn} (h : RNf l) (k : Nat) : RNf (l.take k) := by
  rw [← List.take_append_drop k l] at h; exact (rnf_app.1 h).1
theorem drop_lenk {s : Sp} (hs : okS s) {l : List Rn} (h : RNf l) (k : Nat) : (dropR s (l.take k)).length ≤ k + 1 := by
  have := drop_len hs (rnf_take h k)
  rw [List.length_take] at this
  omega
theorem drop_val {s : Sp} (hs : okS s) {l : List Rn} {P : Int → Prop} (hn : RNf l) (hl : ∀ q ∈ l, P q.2) : ∀ q ∈ dropR s l, P q.2 := by
  intro q hq
  obtain ⟨x, hx, hq⟩ := List.mem_flatMap.1 hq
  rw [(drop1_mem hs (rnf_ok hn x hx) q hq).2.1]; exact hl x hx
/-- What is told of four things, all together. -/
theorem of_count {l : List Rn} (h : ∀ q ∈ l, 0 ≤ q.2 ∧ q.2 < 4) : (ofR 0 l).length + (ofR 1 l).length + (ofR 2 l).length + (ofR 3 l).length = l.length := by
  induction l with
  | nil => rfl
  | cons r l ih =>
    have ih := ih fun q hq => h q (List.mem_cons_of_mem _ hq)
    have hr := h r (List.mem_cons_self ..)
    unfold ofR at ih ⊢
    simp only [List.length_map, List.filter_cons] at ih ⊢
    have : r.2 = 0 ∨ r.2 = 1 ∨ r.2 = 2 ∨ r.2 = 3 := by omega
    rcases this with e | e | e | e <;> simp [e] <;> omega
theorem of_all {l : List Rn} (h : ∀ q ∈ l, 0 ≤ q.2 ∧ q.2 < 4) (a : Int) : Cov (l.map (·.1)) a ↔ RC 0 l a ∨ RC 1 l a ∨ RC 2 l a ∨ RC 3 l a := by
  unfold Cov RC
  constructor
  · rintro ⟨s, hs, h1⟩
    obtain ⟨r, hr, rfl⟩ := List.mem_map.1 hs
    have := h r hr
    have : r.2 = 0 ∨ r.2 = 1 ∨ r.2 = 2 ∨ r.2 = 3 := by omega
    rcases this with e | e | e | e
    · exact .inl ⟨r, hr, e, h1⟩
    · exact .inr (.inl ⟨r, hr, e, h1⟩)
    · exact .inr (.inr (.inl ⟨r, hr, e, h1⟩))
    · exact .inr (.inr (.inr ⟨r, hr, e, h1⟩))
  · rintro (⟨r, hr, _, h1⟩ | ⟨r, hr, _, h1⟩ | ⟨r, hr, _, h1⟩ | ⟨r, hr, _, h1⟩) <;> exact ⟨r.1, List.mem_map.2 ⟨r, hr, rfl⟩, h1⟩
end Go.Proofs.YtfcbmajogmojbaaDoor
