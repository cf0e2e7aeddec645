/-
  Sets of bytes as rising spans: plain words.
-/
namespace Go.Proofs.YtfcbmajogmojbaaGreatDoor
set_option linter.unusedVariables false

abbrev Sp := Int × Int
/-- A span that may be, and isn't empty. -/
def okS (s : Sp) : Prop := 0 ≤ s.1 ∧ s.1 < s.2 ∧ s.2 ≤ 4611686018427387904
/-- Rising, none empty, none touching the next one. -/
def Nf : List Sp → Prop
  | [] => True
  | x :: l => okS x ∧ (∀ y ∈ l, x.2 < y.1) ∧ Nf l
/-- A byte that spans have. -/
def Cov (l : List Sp) (a : Int) : Prop := ∃ s ∈ l, s.1 ≤ a ∧ a < s.2
theorem cov_nil (a : Int) : ¬ Cov [] a := by rintro ⟨s, h, _⟩; cases h
theorem cov_cons {x : Sp} {l : List Sp} {a : Int} : Cov (x :: l) a ↔ (x.1 ≤ a ∧ a < x.2) ∨ Cov l a := by
  unfold Cov
  constructor
  · rintro ⟨s, h, h1⟩
    rcases List.mem_cons.1 h with rfl | h
    · exact .inl h1
    · exact .inr ⟨s, h, h1⟩
  · rintro (h | ⟨s, h, h1⟩)
    · exact ⟨x, List.mem_cons_self .., h⟩
    · exact ⟨s, List.mem_cons_of_mem _ h, h1⟩
theorem cov_app {l m : List Sp} {a : Int} : Cov (l ++ m) a ↔ Cov l a ∨ Cov m a := by
  unfold Cov
  constructor
  · rintro ⟨s, h, h1⟩
    rcases List.mem_append.1 h with h | h
    · exact .inl ⟨s, h, h1⟩
    · exact .inr ⟨s, h, h1⟩
  · rintro (⟨s, h, h1⟩ | ⟨s, h, h1⟩)
    · exact ⟨s, List.mem_append_left _ h, h1⟩
    · exact ⟨s, List.mem_append_right _ h, h1⟩
theorem cov_one {x : Sp} {a : Int} : Cov [x] a ↔ x.1 ≤ a ∧ a < x.2 := by
  rw [cov_cons]; exact ⟨fun h => h.resolve_right (cov_nil a), .inl⟩
theorem cov_perm {l m : List Sp} (h : l.Perm m) {a : Int} : Cov l a ↔ Cov m a := by
  unfold Cov
  exact ⟨fun ⟨s, hs, h1⟩ => ⟨s, h.mem_iff.1 hs, h1⟩, fun ⟨s, hs, h1⟩ => ⟨s, h.mem_iff.2 hs, h1⟩⟩
theorem nf_ok {l : List Sp} (h : Nf l) : ∀ x ∈ l, okS x := by
  induction l with
  | nil => intro x h; cases h
  | cons y l ih =>
    intro x hx
    rcases List.mem_cons.1 hx with rfl | hx
    · exact h.1
    · exact ih h.2.2 x hx
theorem nf_tail {x : Sp} {l : List Sp} (h : Nf (x :: l)) : Nf l := h.2.2
theorem nf_app {l m : List Sp} : Nf (l ++ m) ↔ Nf l ∧ Nf m ∧ ∀ x ∈ l, ∀ y ∈ m, x.2 < y.1 := by
  induction l with
  | nil => simp [Nf]
  | cons x l ih =>
    simp only [List.cons_append, Nf, ih, List.mem_append, List.mem_cons]
    constructor
    · rintro ⟨h1, h2, h3, h4, h5⟩
      refine ⟨⟨h1, fun y hy => h2 y (.inl hy), h3⟩, h4, ?_⟩
      rintro z (rfl | hz) y hy
      · exact h2 y (.inr hy)
      · exact h5 z hz y hy
    · rintro ⟨⟨h1, h2, h3⟩, h4, h5⟩
      exact ⟨h1, fun y hy => hy.elim (h2 y) (h5 x (.inl rfl) y), h3, h4, fun z hz => h5 z (.inr hz)⟩
/-- Behind the first span nothing is ahead of its end. -/
theorem nf_behind {x : Sp} {l : List Sp} (h : Nf (x :: l)) {a : Int} (ha : Cov l a) : x.2 < a := by
  obtain ⟨s, hs, h1, h2⟩ := ha
  have := h.2.1 s hs
  omega
theorem nf_uniq : ∀ {l m : List Sp}, Nf l → Nf m → (∀ a, Cov l a ↔ Cov m a) → l = m
  | [], [], _, _, _ => rfl
  | [], y :: m, _, hm, h => by
    have := (h y.1).2 (cov_cons.2 (.inl ⟨Int.le_refl _, hm.1.2.1⟩))
    exact absurd this (cov_nil _)
  | x :: l, [], hl, _, h => by
    have := (h x.1).1 (cov_cons.2 (.inl ⟨Int.le_refl _, hl.1.2.1⟩))
    exact absurd this (cov_nil _)
  | x :: l, y :: m, hl, hm, h => by
    have hx := hl.1.2.1
    have hy := hm.1.2.1
    have a1 := (h x.1).1 (cov_cons.2 (.inl ⟨Int.le_refl _, hx⟩))
    have a2 := (h y.1).2 (cov_cons.2 (.inl ⟨Int.le_refl _, hy⟩))
    have e1 : x.1 = y.1 := by
      rcases cov_cons.1 a1 with b1 | b1
      · rcases cov_cons.1 a2 with b2 | b2
        · omega
        · have := nf_behind hl b2; omega
      · have := nf_behind hm b1
        rcases cov_cons.1 a2 with b2 | b2
        · omega
        · have := nf_behind hl b2; omega
    have e2 : x.2 = y.2 := by
      rcases Int.lt_trichotomy x.2 y.2 with hlt | he | hlt
      · have := (h x.2).2 (cov_cons.2 (.inl ⟨by omega, hlt⟩))
        rcases cov_cons.1 this with b | b
        · omega
        · have := nf_behind hl b; omega
      · exact he
      · have := (h y.2).1 (cov_cons.2 (.inl ⟨by omega, hlt⟩))
        rcases cov_cons.1 this with b | b
        · omega
        · have := nf_behind hm b; omega
    have e : x = y := Prod.ext e1 e2
    subst e
    rw [nf_uniq hl.2.2 hm.2.2 fun a => ?_]
    have := h a
    rw [cov_cons, cov_cons] at this
    constructor
    · intro ha
      have hb := nf_behind hl ha
      rcases this.1 (.inr ha) with h1 | h1
      · omega
      · exact h1
    · intro ha
      have hb := nf_behind hm ha
      rcases this.2 (.inr ha) with h1 | h1
      · omega
      · exact h1

/-- One of each two spans that touch, one by one. -/
def gstep (out : List Sp) (x : Sp) : List Sp :=
  match out.getLast? with
  | some y => if x.1 ≤ y.2 then out.dropLast ++ [(y.1, max y.2 x.2)] else out ++ [x]
  | none => out ++ [x]
def gathL (l : List Sp) : List Sp := l.foldl gstep []
/-- Rising by their beginnings. -/
def Rise : List Sp → Prop
  | [] => True
  | x :: l => (∀ y ∈ l, x.1 ≤ y.1) ∧ Rise l
theorem gstep_at (l : List Sp) (y x : Sp) : gstep (l ++ [y]) x = if x.1 ≤ y.2 then l ++ [(y.1, max y.2 x.2)] else l ++ [y] ++ [x] := by
  unfold gstep; rw [List.getLast?_append, List.dropLast_concat]; rfl
theorem gstep_cov {out : List Sp} (hN : Nf out) {x : Sp} (hx : okS x) (hr : ∀ y ∈ out, y.1 ≤ x.1) (a : Int) : Cov (gstep out x) a ↔ Cov out a ∨ (x.1 ≤ a ∧ a < x.2) := by
  rcases List.eq_nil_or_concat out with rfl | ⟨l, y, rfl⟩
  · rw [show gstep [] x = [x] from rfl, cov_one]; exact ⟨.inr, fun h => h.resolve_left (cov_nil a)⟩
  · have hy := hr y (by simp)
    rw [List.concat_eq_append] at hN ⊢
    have ho := (nf_ok hN y (by simp)).2.1
    rw [gstep_at]
    split
    · rename_i h
      simp only [cov_app, cov_one]
      constructor
      · rintro (h1 | h1)
        · exact .inl (.inl h1)
        · by_cases h2 : a < y.2
          · exact .inl (.inr ⟨h1.1, h2⟩)
          · exact .inr (by omega)
      · rintro ((h1 | h1) | h1)
        · exact .inl h1
        · exact .inr (by omega)
        · exact .inr (by omega)
    · simp only [cov_app, cov_one]
theorem gstep_nf {out : List Sp} (hN : Nf out) {x : Sp} (hx : okS x) (hr : ∀ y ∈ out, y.1 ≤ x.1) : Nf (gstep out x) := by
  have hx1 := hx.1
  have hx2 := hx.2.1
  have hx3 := hx.2.2
  rcases List.eq_nil_or_concat out with rfl | ⟨l, y, rfl⟩
  · exact ⟨hx, fun y h => (by cases h), trivial⟩
  · have hy := hr y (by simp)
    rw [List.concat_eq_append] at hN ⊢
    have ho := nf_ok hN y (by simp)
    rw [gstep_at]
    obtain ⟨h1, h2, h3⟩ := nf_app.1 hN
    unfold okS at ho
    split
    · refine nf_app.2 ⟨h1, ⟨⟨ho.1, by simp only; omega, by simp only; omega⟩, fun y h => (by cases h), trivial⟩, fun z hz w hw => ?_⟩
      rcases List.mem_singleton.1 hw with rfl
      exact h3 z hz y (by simp)
    · refine nf_app.2 ⟨hN, ⟨hx, fun y h => (by cases h), trivial⟩, fun z hz w hw => ?_⟩
      rcases List.mem_singleton.1 hw with rfl
      rcases List.mem_append.1 hz with hz | hz
      · have := h3 z hz y (by simp); omega
      · rcases List.mem_singleton.1 hz with rfl
        omega
theorem gstep_first {out : List Sp} {x : Sp} (hr : ∀ y ∈ out, y.1 ≤ x.1) {b : Int} (hb : x.1 ≤ b) : ∀ y ∈ gstep out x, y.1 ≤ b := by
  rcases List.eq_nil_or_concat out with rfl | ⟨l, y, rfl⟩
  · intro y hy
    rcases List.mem_singleton.1 hy with rfl
    exact hb
  · rw [List.concat_eq_append] at hr ⊢
    have hy := hr y (by simp)
    rw [gstep_at]
    split
    · intro z hz
      rcases List.mem_append.1 hz with hz | hz
      · have := hr z (by simp [hz]); omega
      · rcases List.mem_singleton.1 hz with rfl
        simp only; omega
    · intro z hz
      rcases List.mem_append.1 hz with hz | hz
      · have := hr z hz; omega
      · rcases List.mem_singleton.1 hz with rfl
        exact hb
theorem gath_go : ∀ (l out : List Sp), Nf out → (∀ x ∈ l, okS x) → Rise l → (∀ y ∈ out, ∀ x ∈ l, y.1 ≤ x.1) → Nf (l.foldl gstep out) ∧ ∀ a, Cov (l.foldl gstep out) a ↔ Cov out a ∨ Cov l a
  | [], out, hN, _, _, _ => ⟨hN, fun a => by rw [List.foldl_nil]; exact ⟨.inl, fun h => h.resolve_right (cov_nil a)⟩⟩
  | x :: l, out, hN, ho, hr, hb => by
    have hx := ho x (List.mem_cons_self ..)
    have hbx := fun y hy => hb y hy x (List.mem_cons_self ..)
    obtain ⟨h1, h2⟩ := gath_go l (gstep out x) (gstep_nf hN hx hbx) (fun y hy => ho y (List.mem_cons_of_mem _ hy)) hr.2 (fun y hy z hz => gstep_first hbx (hr.1 z hz) y hy)
    refine ⟨h1, fun a => ?_⟩
    rw [List.foldl_cons, h2, gstep_cov hN hx hbx, cov_cons, or_assoc]
theorem gath_nf {l : List Sp} (ho : ∀ x ∈ l, okS x) (hr : Rise l) : Nf (gathL l) := (gath_go l [] trivial ho hr fun y h => by cases h).1
theorem gath_cov {l : List Sp} (ho : ∀ x ∈ l, okS x) (hr : Rise l) (a : Int) : Cov (gathL l) a ↔ Cov l a := by
  rw [gathL, (gath_go l [] trivial ho hr fun y h => by cases h).2]
  exact ⟨fun h => h.resolve_left (cov_nil a), .inr⟩
theorem gstep_len (out : List Sp) (x : Sp) : (gstep out x).length ≤ out.length + 1 := by
  rcases List.eq_nil_or_concat out with rfl | ⟨l, y, rfl⟩
  · simp [gstep]
  · rw [List.concat_eq_append, gstep_at]; split <;> simp
theorem gath_take {l : List Sp} {k : Nat} (h : k < l.length) : gathL (l.take (k + 1)) = gstep (gathL (l.take k)) l[k] := by
  unfold gathL; rw [List.take_succ_eq_append_getElem h, List.foldl_append]; rfl
theorem gath_len (l : List Sp) (k : Nat) : (gathL (l.take k)).length ≤ k := by
  induction k with
  | zero => simp [gathL]
  | succ k ih =>
    by_cases h : k < l.length
    · rw [gath_take h]; have := gstep_len (gathL (l.take k)) l[k]; omega
    · rw [List.take_of_length_le (by omega)] at ih ⊢; omega

/-- What both have. -/
def andL : List Sp → List Sp → List Sp
  | x :: s, y :: t => (if max x.1 y.1 < min x.2 y.2 then [(max x.1 y.1, min x.2 y.2)] else []) ++ (if x.2 ≤ y.2 then andL s (y :: t) else andL (x :: s) t)
  | [], _ => []
  | _ :: _, [] => []
termination_by s t => s.length + t.length
theorem andL_nil1 (t : List Sp) : andL [] t = [] := by unfold andL; rfl
theorem andL_nil2 (s : List Sp) : andL s [] = [] := by cases s <;> (unfold andL; rfl)
theorem andL_cons (x y : Sp) (s t : List Sp) : andL (x :: s) (y :: t) = (if max x.1 y.1 < min x.2 y.2 then [(max x.1 y.1, min x.2 y.2)] else []) ++ (if x.2 ≤ y.2 then andL s (y :: t) else andL (x :: s) t) := by
  rw [andL]
theorem andL_cov : ∀ (s t : List Sp), Nf s → Nf t → ∀ a, Cov (andL s t) a ↔ Cov s a ∧ Cov t a
  | [], t, _, _, a => by rw [andL_nil1]; exact ⟨fun h => absurd h (cov_nil a), fun h => absurd h.1 (cov_nil a)⟩
  | x :: s, [], _, _, a => by rw [andL_nil2]; exact ⟨fun h => absurd h (cov_nil a), fun h => absurd h.2 (cov_nil a)⟩
  | x :: s, y :: t, hs, ht, a => by
    have hx := hs.1.2.1
    have hy := ht.1.2.1
    have hc : Cov (if max x.1 y.1 < min x.2 y.2 then [(max x.1 y.1, min x.2 y.2)] else []) a ↔ ((x.1 ≤ a ∧ a < x.2) ∧ (y.1 ≤ a ∧ a < y.2)) := by
      split
      · rw [cov_one]; simp only; omega
      · exact ⟨fun h => absurd h (cov_nil a), fun h => by omega⟩
    rw [andL_cons, cov_app, hc]
    by_cases h : x.2 ≤ y.2
    · rw [if_pos h, andL_cov s (y :: t) hs.2.2 ht a, cov_cons (x := x), cov_cons]
      constructor
      · rintro (⟨h1, h2⟩ | ⟨h1, h2⟩)
        · exact ⟨.inl h1, .inl h2⟩
        · exact ⟨.inr h1, h2⟩
      · rintro ⟨h1 | h1, h2 | h2⟩
        · exact .inl ⟨h1, h2⟩
        · have := nf_behind ht h2; omega
        · exact .inr ⟨h1, .inl h2⟩
        · exact .inr ⟨h1, .inr h2⟩
    · rw [if_neg h, andL_cov (x :: s) t hs ht.2.2 a, cov_cons (x := y), cov_cons]
      constructor
      · rintro (⟨h1, h2⟩ | ⟨h1, h2⟩)
        · exact ⟨.inl h1, .inl h2⟩
        · exact ⟨h1, .inr h2⟩
      · rintro ⟨h1 | h1, h2 | h2⟩
        · exact .inl ⟨h1, h2⟩
        · exact .inr ⟨.inl h1, h2⟩
        · have := nf_behind hs h1; omega
        · exact .inr ⟨.inr h1, h2⟩
termination_by s t => s.length + t.length
/-- Nothing of both begins ahead of the first span of either. -/
theorem andL_lo : ∀ (s t : List Sp), Nf s → Nf t → ∀ z ∈ andL s t, (∀ x ∈ s.head?, x.1 ≤ z.1) ∧ (∀ y ∈ t.head?, y.1 ≤ z.1)
  | [], t, _, _, z, hz => by rw [andL_nil1] at hz; cases hz
  | x :: s, [], _, _, z, hz => by rw [andL_nil2] at hz; cases hz
  | x :: s, y :: t, hs, ht, z, hz => by
    have hx := hs.1.2.1
    have hy := ht.1.2.1
    simp only [List.head?_cons, Option.mem_def, Option.some.injEq, forall_eq']
    rw [andL_cons] at hz
    rcases List.mem_append.1 hz with hz | hz
    · split at hz
      · rcases List.mem_singleton.1 hz with rfl
        simp only; omega
      · cases hz
    · by_cases h : x.2 ≤ y.2
      · rw [if_pos h] at hz
        have := andL_lo s (y :: t) hs.2.2 ht z hz
        have h2 := this.2 y rfl
        cases s with
        | nil => rw [andL_nil1] at hz; cases hz
        | cons x' s =>
          have h1 := this.1 x' rfl
          have := hs.2.1 x' (by simp)
          omega
      · rw [if_neg h] at hz
        have := andL_lo (x :: s) t hs ht.2.2 z hz
        have h2 := this.1 x rfl
        cases t with
        | nil => rw [andL_nil2] at hz; cases hz
        | cons y' t =>
          have h1 := this.2 y' rfl
          have := ht.2.1 y' (by simp)
          omega
termination_by s t => s.length + t.length
theorem andL_nf : ∀ (s t : List Sp), Nf s → Nf t → Nf (andL s t)
  | [], t, _, _ => by rw [andL_nil1]; trivial
  | x :: s, [], _, _ => by rw [andL_nil2]; trivial
  | x :: s, y :: t, hs, ht => by
    have hx := hs.1
    have hy := ht.1
    unfold okS at hx hy
    rw [andL_cons]
    refine nf_app.2 ⟨?_, ?_, ?_⟩
    · split
      · exact ⟨⟨by simp only; omega, by simp only; omega, by simp only; omega⟩, fun y h => (by cases h), trivial⟩
      · trivial
    · split
      · exact andL_nf s (y :: t) hs.2.2 ht
      · exact andL_nf (x :: s) t hs ht.2.2
    · intro z hz u hu
      split at hz
      · rcases List.mem_singleton.1 hz with rfl
        by_cases h : x.2 ≤ y.2
        · rw [if_pos h] at hu
          have := (andL_lo s (y :: t) hs.2.2 ht u hu).1
          cases s with
          | nil => rw [andL_nil1] at hu; cases hu
          | cons x' s =>
            have h1 := this x' rfl
            have := hs.2.1 x' (by simp)
            simp only; omega
        · rw [if_neg h] at hu
          have := (andL_lo (x :: s) t hs ht.2.2 u hu).2
          cases t with
          | nil => rw [andL_nil2] at hu; cases hu
          | cons y' t =>
            have h1 := this y' rfl
            have := ht.2.1 y' (by simp)
            simp only; omega
      · cases hz
termination_by s t => s.length + t.length
theorem andL_len : ∀ (s t : List Sp), (andL s t).length ≤ s.length + t.length
  | [], t => by rw [andL_nil1]; simp
  | x :: s, [] => by rw [andL_nil2]; simp
  | x :: s, y :: t => by
    rw [andL_cons, List.length_append]
    have h1 : (if max x.1 y.1 < min x.2 y.2 then [(max x.1 y.1, min x.2 y.2)] else ([] : List Sp)).length ≤ 1 := by split <;> simp
    have a := andL_len s (y :: t)
    have b := andL_len (x :: s) t
    simp only [List.length_cons] at a b ⊢
    by_cases h : x.2 ≤ y.2
    · rw [if_pos h]; omega
    · rw [if_neg h]; omega
termination_by s t => s.length + t.length

/-- What a span has, from a byte on, and others haven't. -/
def lessO (to : Int) : Int → List Sp → List Sp
  | at_, [] => if at_ < to then [(at_, to)] else []
  | at_, y :: t => if y.1 < to then (if at_ < y.1 then [(at_, y.1)] else []) ++ lessO to (max at_ y.2) t else (if at_ < to then [(at_, to)] else [])
/-- Those that don't end ahead of a byte. -/
def skipL (at_ : Int) : List Sp → List Sp
  | [] => []
  | y :: t => if y.2 ≤ at_ then skipL at_ t else y :: t
/-- What one has, and the other one hasn't. -/
def lessL : List Sp → List Sp → List Sp
  | [], _ => []
  | x :: s, t => lessO x.2 x.1 (skipL x.1 t) ++ lessL s (skipL x.1 t)
theorem skip_nf {b : Int} : ∀ {t : List Sp}, Nf t → Nf (skipL b t)
  | [], _ => trivial
  | y :: t, h => by
    unfold skipL
    split
    · exact skip_nf h.2.2
    · exact h
theorem skip_cov {b : Int} : ∀ {t : List Sp}, ∀ a, b ≤ a → (Cov (skipL b t) a ↔ Cov t a)
  | [], a, _ => Iff.rfl
  | y :: t, a, h => by
    unfold skipL
    split
    · rw [skip_cov a h, cov_cons]
      exact ⟨.inr, fun h1 => h1.resolve_left (by omega)⟩
    · exact Iff.rfl
theorem lessO_cov (to : Int) : ∀ (t : List Sp) (b : Int), Nf t → ∀ a, Cov (lessO to b t) a ↔ (b ≤ a ∧ a < to) ∧ ¬ Cov t a
  | [], b, _, a => by
    unfold lessO
    have := cov_nil a
    split
    · rw [cov_one]; simp only; exact ⟨fun h => ⟨h, this⟩, fun h => h.1⟩
    · exact ⟨fun h => absurd h this, fun h => by omega⟩
  | y :: t, b, h, a => by
    have hy := h.1.2.1
    unfold lessO
    rw [cov_cons]
    split
    · rw [cov_app, lessO_cov to t (max b y.2) h.2.2 a]
      have hc : Cov (if b < y.1 then [(b, y.1)] else []) a ↔ (b ≤ a ∧ a < y.1) := by
        split
        · rw [cov_one]
        · exact ⟨fun h => absurd h (cov_nil a), fun h => by omega⟩
      rw [hc]
      constructor
      · rintro (h1 | ⟨h1, h2⟩)
        · refine ⟨by omega, ?_⟩
          rintro (h2 | h2)
          · omega
          · have := nf_behind h h2; omega
        · refine ⟨by omega, ?_⟩
          rintro (h3 | h3)
          · omega
          · exact h2 h3
      · rintro ⟨h1, h2⟩
        by_cases h3 : a < y.1
        · exact .inl ⟨h1.1, h3⟩
        · by_cases h4 : a < y.2
          · exact absurd (.inl ⟨by omega, h4⟩) h2
          · exact .inr ⟨by omega, fun h5 => h2 (.inr h5)⟩
    · rename_i hto
      have hn : a < to → ¬ ((y.1 ≤ a ∧ a < y.2) ∨ Cov t a) := by
        rintro ha (h1 | h1)
        · omega
        · have := nf_behind h h1; omega
      split
      · rw [cov_one]; simp only; exact ⟨fun h1 => ⟨h1, hn h1.2⟩, fun h1 => h1.1⟩
      · exact ⟨fun h1 => absurd h1 (cov_nil a), fun h1 => by omega⟩
theorem lessO_nf (to : Int) (hto : to ≤ 4611686018427387904) : ∀ (t : List Sp) (b : Int), 0 ≤ b → Nf t → Nf (lessO to b t) ∧ ∀ z ∈ lessO to b t, b ≤ z.1 ∧ z.2 ≤ to
  | [], b, hb, _ => by
    unfold lessO
    split
    · exact ⟨⟨⟨hb, by assumption, hto⟩, fun y h => (by cases h), trivial⟩, fun z hz => by rcases List.mem_singleton.1 hz with rfl; simp only; omega⟩
    · exact ⟨trivial, fun z hz => by cases hz⟩
  | y :: t, b, hb, h => by
    have hy := h.1
    unfold okS at hy
    unfold lessO
    split
    · obtain ⟨h1, h2⟩ := lessO_nf to hto t (max b y.2) (by omega) h.2.2
      refine ⟨nf_app.2 ⟨?_, h1, ?_⟩, ?_⟩
      · split
        · exact ⟨⟨hb, by assumption, by simp only; omega⟩, fun y h => (by cases h), trivial⟩
        · trivial
      · intro z hz u hu
        split at hz
        · rcases List.mem_singleton.1 hz with rfl
          have := h2 u hu
          simp only; omega
        · cases hz
      · intro z hz
        rcases List.mem_append.1 hz with hz | hz
        · split at hz
          · rcases List.mem_singleton.1 hz with rfl
            simp only; omega
          · cases hz
        · have := h2 z hz; omega
    · split
      · exact ⟨⟨⟨hb, by assumption, hto⟩, fun y h => (by cases h), trivial⟩, fun z hz => by rcases List.mem_singleton.1 hz with rfl; simp only; omega⟩
      · exact ⟨trivial, fun z hz => by cases hz⟩
theorem lessL_cov : ∀ (s t : List Sp), Nf s → Nf t → ∀ a, Cov (lessL s t) a ↔ Cov s a ∧ ¬ Cov t a
  | [], t, _, _, a => ⟨fun h => absurd h (cov_nil a), fun h => absurd h.1 (cov_nil a)⟩
  | x :: s, t, hs, ht, a => by
    have hx := hs.1.2.1
    unfold lessL
    rw [cov_app, lessO_cov _ _ _ (skip_nf ht), lessL_cov s _ hs.2.2 (skip_nf ht), cov_cons]
    constructor
    · rintro (⟨h1, h2⟩ | ⟨h1, h2⟩)
      · rw [skip_cov a h1.1] at h2; exact ⟨.inl h1, h2⟩
      · rw [skip_cov a (by have := nf_behind hs h1; omega)] at h2; exact ⟨.inr h1, h2⟩
    · rintro ⟨h1 | h1, h2⟩
      · exact .inl ⟨h1, by rw [skip_cov a h1.1]; exact h2⟩
      · exact .inr ⟨h1, by rw [skip_cov a (by have := nf_behind hs h1; omega)]; exact h2⟩
theorem lessL_lo : ∀ (s t : List Sp), Nf s → Nf t → ∀ z ∈ lessL s t, ∀ x ∈ s.head?, x.1 ≤ z.1
  | [], t, _, _, z, hz => by cases hz
  | x :: s, t, hs, ht, z, hz => by
    have hx := hs.1
    unfold okS at hx
    simp only [List.head?_cons, Option.mem_def, Option.some.injEq, forall_eq']
    unfold lessL at hz
    rcases List.mem_append.1 hz with hz | hz
    · exact ((lessO_nf _ hx.2.2 _ _ hx.1 (skip_nf ht)).2 z hz).1
    · have := lessL_lo s _ hs.2.2 (skip_nf ht) z hz
      cases s with
      | nil => cases hz
      | cons x' s =>
        have h1 := this x' rfl
        have := hs.2.1 x' (by simp)
        omega
theorem lessL_nf : ∀ (s t : List Sp), Nf s → Nf t → Nf (lessL s t)
  | [], t, _, _ => trivial
  | x :: s, t, hs, ht => by
    have hx := hs.1
    unfold okS at hx
    unfold lessL
    obtain ⟨h1, h2⟩ := lessO_nf _ hx.2.2 _ _ hx.1 (skip_nf ht)
    refine nf_app.2 ⟨h1, lessL_nf s _ hs.2.2 (skip_nf ht), fun z hz u hu => ?_⟩
    have := (h2 z hz).2
    have hlo := lessL_lo s _ hs.2.2 (skip_nf ht) u hu
    cases s with
    | nil => cases hu
    | cons x' s =>
      have h1 := hlo x' rfl
      have := hs.2.1 x' (by simp)
      omega
theorem skip_len (b : Int) (t : List Sp) : (skipL b t).length ≤ t.length := by
  induction t with
  | nil => simp [skipL]
  | cons y t ih =>
    unfold skipL
    split
    · simp only [List.length_cons]; omega
    · exact Nat.le_refl _
theorem lessO_len (to : Int) : ∀ (t : List Sp) (b : Int), (lessO to b t).length ≤ t.length + 1
  | [], b => by unfold lessO; split <;> simp
  | y :: t, b => by
    unfold lessO
    have := lessO_len to t (max b y.2)
    split
    · rw [List.length_append]; split <;> simp <;> omega
    · split <;> simp
theorem lessL_len : ∀ (s t : List Sp), (lessL s t).length ≤ s.length * (t.length + 1)
  | [], t => by simp [lessL]
  | x :: s, t => by
    unfold lessL
    have h1 := lessO_len x.2 (skipL x.1 t) x.1
    have h2 := lessL_len s (skipL x.1 t)
    have h3 := skip_len x.1 t
    have h4 : s.length * ((skipL x.1 t).length + 1) ≤ s.length * (t.length + 1) := Nat.mul_le_mul (Nat.le_refl _) (by omega)
    rw [List.length_append, List.length_cons, Nat.succ_mul]
    omega
/-- Normal spans that are less are no more than ends are. -/
theorem nf_rise {l : List Sp} (h : Nf l) : Rise l := by
  induction l with
  | nil => trivial
  | cons x l ih =>
    have hx := h.1.2.1
    exact ⟨fun y hy => by have := h.2.1 y hy; omega, ih h.2.2⟩
/-- Two rising lists as one. -/
def mergeL : List Sp → List Sp → List Sp
  | [], t => t
  | x :: s, [] => x :: s
  | x :: s, y :: t => if x.1 ≤ y.1 then x :: mergeL s (y :: t) else y :: mergeL (x :: s) t
termination_by s t => s.length + t.length
theorem merge_nil1 (t : List Sp) : mergeL [] t = t := by unfold mergeL; rfl
theorem merge_nil2 (s : List Sp) : mergeL s [] = s := by cases s <;> (unfold mergeL; rfl)
theorem merge_cons (x y : Sp) (s t : List Sp) : mergeL (x :: s) (y :: t) = if x.1 ≤ y.1 then x :: mergeL s (y :: t) else y :: mergeL (x :: s) t := by rw [mergeL]
theorem merge_perm : ∀ (s t : List Sp), (mergeL s t).Perm (s ++ t)
  | [], t => by rw [merge_nil1]; exact List.Perm.refl _
  | x :: s, [] => by rw [merge_nil2, List.append_nil]
  | x :: s, y :: t => by
    rw [merge_cons]
    split
    · exact (merge_perm s (y :: t)).cons x
    · exact ((merge_perm (x :: s) t).cons y).trans (List.perm_middle.symm)
termination_by s t => s.length + t.length
theorem merge_rise : ∀ (s t : List Sp), Rise s → Rise t → Rise (mergeL s t)
  | [], t, _, ht => by rw [merge_nil1]; exact ht
  | x :: s, [], hs, _ => by rw [merge_nil2]; exact hs
  | x :: s, y :: t, hs, ht => by
    rw [merge_cons]
    split
    · rename_i h
      refine ⟨fun z hz => ?_, merge_rise s (y :: t) hs.2 ht⟩
      rcases List.mem_append.1 ((merge_perm s (y :: t)).mem_iff.1 hz) with hz | hz
      · exact hs.1 z hz
      · rcases List.mem_cons.1 hz with rfl | hz
        · exact h
        · have := ht.1 z hz; omega
    · rename_i h
      refine ⟨fun z hz => ?_, merge_rise (x :: s) t hs ht.2⟩
      rcases List.mem_append.1 ((merge_perm (x :: s) t).mem_iff.1 hz) with hz | hz
      · rcases List.mem_cons.1 hz with rfl | hz
        · omega
        · have := hs.1 z hz; omega
      · exact ht.1 z hz
termination_by s t => s.length + t.length
theorem merge_len (s t : List Sp) : (mergeL s t).length = s.length + t.length := by rw [(merge_perm s t).length_eq, List.length_append]
def orL (s t : List Sp) : List Sp := gathL (mergeL s t)
theorem orL_ok {s t : List Sp} (hs : Nf s) (ht : Nf t) : (∀ x ∈ mergeL s t, okS x) ∧ Rise (mergeL s t) :=
  ⟨fun x hx => (List.mem_append.1 ((merge_perm s t).mem_iff.1 hx)).elim (nf_ok hs x) (nf_ok ht x), merge_rise s t (nf_rise hs) (nf_rise ht)⟩
theorem orL_nf {s t : List Sp} (hs : Nf s) (ht : Nf t) : Nf (orL s t) := gath_nf (orL_ok hs ht).1 (orL_ok hs ht).2
theorem orL_cov {s t : List Sp} (hs : Nf s) (ht : Nf t) (a : Int) : Cov (orL s t) a ↔ Cov s a ∨ Cov t a := by
  rw [orL, gath_cov (orL_ok hs ht).1 (orL_ok hs ht).2, cov_perm (merge_perm s t), cov_app]
theorem orL_len (s t : List Sp) : (orL s t).length ≤ s.length + t.length := by
  have := gath_len (mergeL s t) (mergeL s t).length
  rw [List.take_length, merge_len] at this
  exact this
theorem merge_i {s t : List Sp} {i j : Nat} (hi : i < s.length) (hj : t.length ≤ j) : mergeL (s.drop i) (t.drop j) = s[i] :: mergeL (s.drop (i + 1)) (t.drop j) := by
  rw [List.drop_eq_getElem_cons hi, List.drop_of_length_le hj, merge_nil2, merge_nil2]
theorem merge_j {s t : List Sp} {i j : Nat} (hi : s.length ≤ i) (hj : j < t.length) : mergeL (s.drop i) (t.drop j) = t[j] :: mergeL (s.drop i) (t.drop (j + 1)) := by
  rw [List.drop_eq_getElem_cons hj, List.drop_of_length_le hi, merge_nil1, merge_nil1]
theorem merge_le {s t : List Sp} {i j : Nat} (hi : i < s.length) (hj : j < t.length) (h : s[i].1 ≤ t[j].1) : mergeL (s.drop i) (t.drop j) = s[i] :: mergeL (s.drop (i + 1)) (t.drop j) := by
  rw [List.drop_eq_getElem_cons hi, List.drop_eq_getElem_cons hj, merge_cons, if_pos h]
theorem merge_gt {s t : List Sp} {i j : Nat} (hi : i < s.length) (hj : j < t.length) (h : ¬ s[i].1 ≤ t[j].1) : mergeL (s.drop i) (t.drop j) = t[j] :: mergeL (s.drop i) (t.drop (j + 1)) := by
  rw [List.drop_eq_getElem_cons hi, List.drop_eq_getElem_cons hj, merge_cons, if_neg h]
theorem merge_end {s t : List Sp} {i j : Nat} (hi : s.length ≤ i) (hj : t.length ≤ j) : mergeL (s.drop i) (t.drop j) = [] := by
  rw [List.drop_of_length_le hi, List.drop_of_length_le hj, merge_nil1]
theorem app_step {α : Type} {M T R : List α} {x : α} (h : M ++ R = T) {R' : List α} (hr : R = x :: R') : (M ++ [x]) ++ R' = T := by
  rw [← h, hr, List.append_assoc]; rfl
/-- What is made by now, and what is still to be made. -/
def Mrg (s t : List Sp) (i j : Nat) (M : List Sp) : Prop := M ++ mergeL (s.drop i) (t.drop j) = mergeL s t
theorem Mrg.start (s t : List Sp) : Mrg s t 0 0 [] := by unfold Mrg; rw [List.drop_zero, List.drop_zero, List.nil_append]
theorem Mrg.i_ {s t M : List Sp} {i j : Nat} {x : Sp} (h : Mrg s t i j M) (hi : i < s.length) (hj : t.length ≤ j) (hx : s[i] = x) : Mrg s t (i + 1) j (M ++ [x]) := by subst hx; exact app_step h (merge_i hi hj)
theorem Mrg.j_ {s t M : List Sp} {i j : Nat} {x : Sp} (h : Mrg s t i j M) (hi : s.length ≤ i) (hj : j < t.length) (hx : t[j] = x) : Mrg s t i (j + 1) (M ++ [x]) := by subst hx; exact app_step h (merge_j hi hj)
theorem Mrg.le_ {s t M : List Sp} {i j : Nat} {x y : Sp} (h : Mrg s t i j M) (hi : i < s.length) (hj : j < t.length) (hx : s[i] = x) (hy : t[j] = y) (hle : x.1 ≤ y.1) : Mrg s t (i + 1) j (M ++ [x]) := by subst hx; subst hy; exact app_step h (merge_le hi hj hle)
theorem Mrg.gt_ {s t M : List Sp} {i j : Nat} {x y : Sp} (h : Mrg s t i j M) (hi : i < s.length) (hj : j < t.length) (hx : s[i] = x) (hy : t[j] = y) (hle : ¬ x.1 ≤ y.1) : Mrg s t i (j + 1) (M ++ [y]) := by subst hx; subst hy; exact app_step h (merge_gt hi hj hle)
theorem Mrg.end_ {s t M : List Sp} {i j : Nat} (h : Mrg s t i j M) (hi : s.length ≤ i) (hj : t.length ≤ j) : M = mergeL s t := by unfold Mrg at h; rwa [merge_end hi hj, List.append_nil] at h
def Lss (s t : List Sp) (k j : Nat) (M : List Sp) : Prop := M ++ lessL (s.drop k) (t.drop j) = lessL s t
def Skp (t : List Sp) (b : Int) (j i : Nat) : Prop := skipL b (t.drop i) = skipL b (t.drop j)
def Lin (s t : List Sp) (x : Sp) (k j i : Nat) (b : Int) (M : List Sp) : Prop := M ++ (lessO x.2 b (t.drop i) ++ lessL (s.drop (k + 1)) (t.drop j)) = lessL s t
def Lfi (s t : List Sp) (x : Sp) (k j : Nat) (b : Int) (M : List Sp) : Prop := M ++ ((if b < x.2 then [(b, x.2)] else []) ++ lessL (s.drop (k + 1)) (t.drop j)) = lessL s t
theorem Lss.start (s t : List Sp) : Lss s t 0 0 [] := by unfold Lss; rw [List.drop_zero, List.drop_zero, List.nil_append]
theorem Lss.fin {s t M : List Sp} {k j : Nat} (h : Lss s t k j M) (hk : s.length ≤ k) : M = lessL s t := by
  unfold Lss at h; rw [List.drop_of_length_le hk] at h; simpa [lessL] using h
theorem Skp.refl (t : List Sp) (b : Int) (j : Nat) : Skp t b j j := rfl
theorem Skp.next {t : List Sp} {b : Int} {j i : Nat} {y : Sp} (h : Skp t b j i) (hi : i < t.length) (hy : t[i] = y) (hle : y.2 ≤ b) : Skp t b j (i + 1) := by
  unfold Skp at h ⊢
  rw [← h, List.drop_eq_getElem_cons hi, hy]
  conv => rhs; unfold skipL
  rw [if_pos hle]
theorem Skp.stop {t : List Sp} {b : Int} {j i : Nat} (h : Skp t b j i) (hs : ∀ hi : i < t.length, ¬ t[i].2 ≤ b) : t.drop i = skipL b (t.drop j) := by
  unfold Skp at h
  rw [← h]
  by_cases hi : i < t.length
  · rw [List.drop_eq_getElem_cons hi]
    conv => rhs; unfold skipL
    rw [if_neg (hs hi)]
  · rw [List.drop_of_length_le (show t.length ≤ i by omega)]; rfl
theorem Lss.lin {s t M : List Sp} {k j i : Nat} {x : Sp} (h : Lss s t k j M) (hk : k < s.length) (hx : s[k] = x) (hd : t.drop i = skipL x.1 (t.drop j)) : Lin s t x k i i x.1 M := by
  unfold Lss at h
  unfold Lin
  rw [← h, List.drop_eq_getElem_cons hk, hx]
  conv => rhs; unfold lessL
  rw [hd]
theorem Lin.next {s t M : List Sp} {x y : Sp} {k j i : Nat} {b : Int} (h : Lin s t x k j i b M) (hi : i < t.length) (hy : t[i] = y) (hlt : y.1 < x.2) : Lin s t x k j (i + 1) (max b y.2) (M ++ (if b < y.1 then [(b, y.1)] else [])) := by
  unfold Lin at h ⊢
  rw [← h, List.drop_eq_getElem_cons hi, hy]
  conv => rhs; unfold lessO
  rw [if_pos hlt, List.append_assoc, List.append_assoc]
theorem Lin.gap {s t M : List Sp} {x y : Sp} {k j i : Nat} {b : Int} (h : Lin s t x k j i b M) (hi : i < t.length) (hy : t[i] = y) (hlt : y.1 < x.2) (hg : b < y.1) : Lin s t x k j (i + 1) (max b y.2) (M ++ [(b, y.1)]) := by
  have := h.next hi hy hlt; rwa [if_pos hg] at this
theorem Lin.same {s t M : List Sp} {x y : Sp} {k j i : Nat} {b : Int} (h : Lin s t x k j i b M) (hi : i < t.length) (hy : t[i] = y) (hlt : y.1 < x.2) (hg : ¬ b < y.1) : Lin s t x k j (i + 1) (max b y.2) M := by
  have := h.next hi hy hlt; rwa [if_neg hg, List.append_nil] at this
theorem Lin.fi {s t M : List Sp} {x : Sp} {k j i : Nat} {b : Int} (h : Lin s t x k j i b M) (hs : ∀ hi : i < t.length, ¬ t[i].1 < x.2) : Lfi s t x k j b M := by
  unfold Lin at h
  unfold Lfi
  rw [← h]
  by_cases hi : i < t.length
  · rw [List.drop_eq_getElem_cons hi]
    conv => rhs; unfold lessO
    rw [if_neg (hs hi)]
  · rw [List.drop_of_length_le (show t.length ≤ i by omega)]; unfold lessO; rfl
theorem Lfi.yes {s t M : List Sp} {x : Sp} {k j : Nat} {b : Int} (h : Lfi s t x k j b M) (hb : b < x.2) : Lss s t (k + 1) j (M ++ [(b, x.2)]) := by
  unfold Lfi at h; rw [if_pos hb] at h; unfold Lss; rw [List.append_assoc]; exact h
theorem Lfi.no {s t M : List Sp} {x : Sp} {k j : Nat} {b : Int} (h : Lfi s t x k j b M) (hb : ¬ b < x.2) : Lss s t (k + 1) j M := by
  unfold Lfi at h; rw [if_neg hb, List.nil_append] at h; exact h
theorem less_bd {s t : List Sp} (h1 : s.length ≤ 1000) (h2 : t.length ≤ 1000) : (lessL s t).length ≤ 1001000 := by
  have := lessL_len s t
  have := Nat.mul_le_mul h1 (show t.length + 1 ≤ 1001 by omega)
  omega
theorem Lss.len {s t M : List Sp} {k j : Nat} (h : Lss s t k j M) (h1 : s.length ≤ 1000) (h2 : t.length ≤ 1000) : M.length ≤ 1001000 := by
  have := less_bd h1 h2; unfold Lss at h; rw [← h, List.length_append] at this; omega
theorem Lin.len {s t M : List Sp} {x : Sp} {k j i : Nat} {b : Int} (h : Lin s t x k j i b M) (h1 : s.length ≤ 1000) (h2 : t.length ≤ 1000) : M.length ≤ 1001000 := by
  have := less_bd h1 h2; unfold Lin at h; rw [← h, List.length_append] at this; omega
def And_ (s t : List Sp) (i j : Nat) (M : List Sp) : Prop := M ++ andL (s.drop i) (t.drop j) = andL s t
theorem And_.start (s t : List Sp) : And_ s t 0 0 [] := by unfold And_; rw [List.drop_zero, List.drop_zero, List.nil_append]
theorem And_.fin {s t M : List Sp} {i j : Nat} (h : And_ s t i j M) (he : s.length ≤ i ∨ t.length ≤ j) : M = andL s t := by
  unfold And_ at h
  rcases he with he | he
  · rw [List.drop_of_length_le he, andL_nil1, List.append_nil] at h; exact h
  · rw [List.drop_of_length_le he, andL_nil2, List.append_nil] at h; exact h
theorem And_.next {s t M : List Sp} {i j : Nat} {x y : Sp} (h : And_ s t i j M) (hi : i < s.length) (hj : j < t.length) (hx : s[i] = x) (hy : t[j] = y) :
    And_ s t (if x.2 ≤ y.2 then i + 1 else i) (if x.2 ≤ y.2 then j else j + 1) (M ++ (if max x.1 y.1 < min x.2 y.2 then [(max x.1 y.1, min x.2 y.2)] else [])) := by
  unfold And_ at h ⊢
  rw [← h, List.drop_eq_getElem_cons hi, List.drop_eq_getElem_cons hj, hx, hy, andL_cons, List.append_assoc]
  by_cases hle : x.2 ≤ y.2
  · rw [if_pos hle, if_pos hle, if_pos hle, List.drop_eq_getElem_cons hj, hy]
  · rw [if_neg hle, if_neg hle, if_neg hle, List.drop_eq_getElem_cons hi, hx]
theorem And_.len {s t M : List Sp} {i j : Nat} (h : And_ s t i j M) : M.length ≤ s.length + t.length := by
  have := andL_len s t; unfold And_ at h; rw [← h, List.length_append] at this; omega
end Go.Proofs.YtfcbmajogmojbaaGreatDoor
