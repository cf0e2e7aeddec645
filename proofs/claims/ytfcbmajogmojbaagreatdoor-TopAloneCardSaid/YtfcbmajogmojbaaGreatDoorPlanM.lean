/-
  Spans cut into pieces; whole slices: plain words.
-/
import Derived.Test.YtfcbmajogmojbaaGreatDoorRngM
namespace Go.Proofs.YtfcbmajogmojbaaGreatDoor
set_option linter.unusedVariables false

/-- Ahead of a span, and right behind it, there is nothing. -/
theorem nf_edge : ∀ {l : List Sp}, Nf l → ∀ x ∈ l, ¬ Cov l (x.1 - 1) ∧ ¬ Cov l x.2
  | [], _, x, hx => by cases hx
  | y :: l, h, x, hx => by
    have hy := h.1
    unfold okS at hy
    rcases List.mem_cons.1 hx with rfl | hx
    · constructor
      · intro hc
        rcases cov_cons.1 hc with h1 | h1
        · omega
        · have := nf_behind h h1; omega
      · intro hc
        rcases cov_cons.1 hc with h1 | h1
        · omega
        · have := nf_behind h h1; omega
    · obtain ⟨h1, h2⟩ := nf_edge h.2.2 x hx
      have hlt := h.2.1 x hx
      have hxo := nf_ok h.2.2 x hx
      unfold okS at hxo
      constructor
      · intro hc
        rcases cov_cons.1 hc with h3 | h3
        · omega
        · exact h1 h3
      · intro hc
        rcases cov_cons.1 hc with h3 | h3
        · omega
        · exact h2 h3
theorem cov_in {l : List Sp} {x : Sp} (hx : x ∈ l) {a : Int} (h : x.1 ≤ a ∧ a < x.2) : Cov l a := ⟨x, hx, h⟩
/-- What is whole lies in one span. -/
theorem nf_whole : ∀ {l : List Sp}, Nf l → ∀ (f : Int) (n : Nat), (∀ a, f ≤ a → a < f + (n : Int) + 1 → Cov l a) → ∃ x ∈ l, x.1 ≤ f ∧ f + (n : Int) + 1 ≤ x.2
  | l, hl, f, 0, h => by
    obtain ⟨x, hx, h1, h2⟩ := h f (by omega) (by omega)
    exact ⟨x, hx, h1, by omega⟩
  | l, hl, f, n + 1, h => by
    obtain ⟨x, hx, h1, h2⟩ := nf_whole hl f n fun a h1 h2 => h a h1 (by omega)
    refine ⟨x, hx, h1, ?_⟩
    have e := (nf_edge hl x hx).2
    by_cases h3 : f + ((n + 1 : Nat) : Int) + 1 ≤ x.2
    · exact h3
    · exact absurd (h x.2 (by omega) (by omega)) e
theorem nf_one {l : List Sp} (hl : Nf l) {f t : Int} (hft : f < t) (h : ∀ a, f ≤ a → a < t → Cov l a) : ∃ x ∈ l, x.1 ≤ f ∧ t ≤ x.2 := by
  obtain ⟨x, hx, h1, h2⟩ := nf_whole hl f (t - f - 1).toNat fun a h1 h2 => h a h1 (by omega)
  exact ⟨x, hx, h1, by omega⟩
/-- Whole slices of four bytes. -/
def Uc (p : Int → Prop) : Prop := ∀ a b, a / 4 = b / 4 → p a → p b
theorem Uc.and {p q : Int → Prop} (hp : Uc p) (hq : Uc q) : Uc fun a => p a ∧ q a := fun a b e h => ⟨hp a b e h.1, hq a b e h.2⟩
theorem Uc.or {p q : Int → Prop} (hp : Uc p) (hq : Uc q) : Uc fun a => p a ∨ q a := fun a b e h => h.imp (hp a b e) (hq a b e)
theorem Uc.not {p : Int → Prop} (hp : Uc p) : Uc fun a => ¬ p a := fun a b e h h1 => h (hp b a e.symm h1)
theorem Uc.to {p q : Int → Prop} (hp : Uc p) (h : ∀ a, p a ↔ q a) : Uc q := fun a b e h1 => (h b).1 (hp a b e ((h a).2 h1))
theorem Uc.span (f t : Int) : Uc fun a => 4 * f ≤ a ∧ a < 4 * t := fun a b e h => by omega
theorem uc_ends {l : List Sp} (hl : Nf l) (hu : Uc (Cov l)) : ∀ x ∈ l, x.1 % 4 = 0 ∧ x.2 % 4 = 0 := by
  intro x hx
  have ho := nf_ok hl x hx
  unfold okS at ho
  obtain ⟨h1, h2⟩ := nf_edge hl x hx
  constructor
  · by_cases h : x.1 % 4 = 0
    · exact h
    · exact absurd (hu x.1 (x.1 - 1) (by omega) (cov_in hx (by omega))) h1
  · by_cases h : x.2 % 4 = 0
    · exact h
    · exact absurd (hu (x.2 - 1) x.2 (by omega) (cov_in hx (by omega))) h2

/-- A span in pieces of up to 64 bytes. -/
def chopS (f t : Int) : List Sp := if t - f ≤ 64 then [(f, t)] else (f, f + 64) :: chopS (f + 64) t
termination_by (t - f).toNat
def planL (l : List Sp) : List Sp := l.flatMap fun x => chopS x.1 x.2
theorem plan_short {x : Sp} {l : List Sp} (h : x.2 - x.1 ≤ 64) : planL (x :: l) = x :: planL l := by
  have e : chopS x.1 x.2 = [x] := by unfold chopS; rw [if_pos h]
  unfold planL; rw [List.flatMap_cons, e]; rfl
theorem plan_long {x : Sp} {l : List Sp} (h : ¬ x.2 - x.1 ≤ 64) : planL (x :: l) = (x.1, x.1 + 64) :: planL ((x.1 + 64, x.2) :: l) := by
  have e : chopS x.1 x.2 = (x.1, x.1 + 64) :: chopS (x.1 + 64) x.2 := by (conv => lhs; unfold chopS); rw [if_neg h]
  unfold planL; rw [List.flatMap_cons, List.flatMap_cons, e]; rfl
/-- Pieces that lie one behind the other. -/
def Laid (lo : Int) : List Sp → Prop
  | [] => True
  | x :: l => lo ≤ x.1 ∧ x.1 < x.2 ∧ Laid x.2 l
theorem laid_mono {lo b : Int} (h : b ≤ lo) : ∀ {l : List Sp}, Laid lo l → Laid b l
  | [], _ => trivial
  | x :: l, h1 => ⟨by have := h1.1; omega, h1.2⟩
theorem chop_all {f t : Int} (hft : f < t) : Laid f (chopS f t) ∧ (∀ m, Laid t m → Laid f (chopS f t ++ m)) ∧ (∀ a, Cov (chopS f t) a ↔ f ≤ a ∧ a < t) ∧ (∀ x ∈ chopS f t, f ≤ x.1 ∧ x.2 ≤ t ∧ x.2 - x.1 ≤ 64) ∧ (f % 4 = 0 → t % 4 = 0 → ∀ x ∈ chopS f t, x.1 % 4 = 0 ∧ x.2 % 4 = 0) := by
  unfold chopS
  split
  · refine ⟨⟨Int.le_refl _, hft, trivial⟩, fun m h => ⟨Int.le_refl _, hft, h⟩, fun a => cov_one, fun x hx => ?_, fun h1 h2 x hx => ?_⟩
    · rcases List.mem_singleton.1 hx with rfl
      simp only; omega
    · rcases List.mem_singleton.1 hx with rfl
      exact ⟨h1, h2⟩
  · obtain ⟨h1, h2, h3, h4, h5⟩ := chop_all (f := f + 64) (t := t) (by omega)
    refine ⟨⟨Int.le_refl _, by simp only; omega, h1⟩, fun m h => ⟨Int.le_refl _, by simp only; omega, h2 m h⟩, fun a => ?_, fun x hx => ?_, fun g1 g2 x hx => ?_⟩
    · rw [cov_cons, h3]; simp only; omega
    · rcases List.mem_cons.1 hx with rfl | hx
      · simp only; omega
      · have := h4 x hx; omega
    · rcases List.mem_cons.1 hx with rfl | hx
      · simp only; omega
      · exact h5 (by omega) g2 x hx
termination_by (t - f).toNat
theorem plan_all : ∀ {l : List Sp}, Nf l → (∀ lo, (∀ x ∈ l, lo ≤ x.1) → Laid lo (planL l)) ∧ (∀ a, Cov (planL l) a ↔ Cov l a) ∧ (∀ x ∈ planL l, x.2 - x.1 ≤ 64) ∧ ((∀ x ∈ l, x.1 % 4 = 0 ∧ x.2 % 4 = 0) → ∀ x ∈ planL l, x.1 % 4 = 0 ∧ x.2 % 4 = 0)
  | [], _ => ⟨fun _ _ => trivial, fun a => Iff.rfl, fun x h => (by cases h), fun _ x h => by cases h⟩
  | y :: l, h => by
    have hy := h.1
    unfold okS at hy
    obtain ⟨h1, h2, h3, h4⟩ := plan_all h.2.2
    obtain ⟨c1, c2, c3, c4, c5⟩ := chop_all hy.2.1
    have e : planL (y :: l) = chopS y.1 y.2 ++ planL l := by unfold planL; rw [List.flatMap_cons]
    rw [e]
    refine ⟨fun lo hlo => ?_, fun a => ?_, fun x hx => ?_, fun hal x hx => ?_⟩
    · have := hlo y (List.mem_cons_self ..)
      exact laid_mono this (c2 _ (h1 y.2 fun x hx => by have := h.2.1 x hx; omega))
    · rw [cov_app, c3, h2, cov_cons]
    · rcases List.mem_append.1 hx with hx | hx
      · exact (c4 x hx).2.2
      · exact h3 x hx
    · rcases List.mem_append.1 hx with hx | hx
      · have := hal y (List.mem_cons_self ..)
        exact c5 this.1 this.2 x hx
      · exact h4 (fun z hz => hal z (List.mem_cons_of_mem _ hz)) x hx
/-- How many bytes spans have, one by one. -/
def sumL (l : List Sp) : Int := (l.map fun x => x.2 - x.1).sum
theorem sum_cons (x : Sp) (l : List Sp) : sumL (x :: l) = (x.2 - x.1) + sumL l := by simp [sumL]
theorem sum_app (l m : List Sp) : sumL (l ++ m) = sumL l + sumL m := by
  induction l with
  | nil => simp [sumL]
  | cons x l ih => rw [List.cons_append, sum_cons, sum_cons, ih]; omega
theorem sum_take {l : List Sp} {k : Nat} (h : k < l.length) : sumL (l.take (k + 1)) = sumL (l.take k) + (l[k].2 - l[k].1) := by
  rw [List.take_succ_eq_append_getElem h, sum_app, sum_cons]; simp [sumL]
theorem laid_sum {lo hi : Int} : ∀ {l : List Sp}, Laid lo l → (∀ x ∈ l, x.2 ≤ hi) → lo ≤ hi → 0 ≤ sumL l ∧ sumL l ≤ hi - lo
  | [], _, _, h => ⟨by simp [sumL], by simp [sumL]; omega⟩
  | x :: l, h1, h2, h3 => by
    have hx := h2 x (List.mem_cons_self ..)
    have := laid_sum h1.2.2 (fun y hy => h2 y (List.mem_cons_of_mem _ hy)) hx
    have a := h1.1
    have b := h1.2.1
    rw [sum_cons]
    omega
theorem nf_laid : ∀ {l : List Sp} {lo : Int}, Nf l → (∀ x ∈ l, lo ≤ x.1) → Laid lo l
  | [], _, _, _ => trivial
  | x :: l, lo, h, hlo => ⟨hlo x (List.mem_cons_self ..), h.1.2.1, nf_laid h.2.2 fun y hy => by have := h.2.1 y hy; omega⟩
/-- Pieces one behind the other, or as few spans: as many bytes. -/
theorem gath_sum : ∀ (l out : List Sp) (b : Int), Nf out → (∀ y ∈ out, y.2 ≤ b) → Laid b l → (∀ x ∈ l, okS x) → sumL (l.foldl gstep out) = sumL out + sumL l
  | [], out, b, _, _, _, _ => by simp [sumL]
  | x :: l, out, b, hN, hb, hl, ho => by
    have hx := ho x (List.mem_cons_self ..)
    have h1 := hl.1
    have hx' := hx
    unfold okS at hx'
    have hr : ∀ y ∈ out, y.1 ≤ x.1 := fun y hy => by have := hb y hy; have := (nf_ok hN y hy).2.1; omega
    have hs : sumL (gstep out x) = sumL out + (x.2 - x.1) ∧ ∀ y ∈ gstep out x, y.2 ≤ x.2 := by
      rcases List.eq_nil_or_concat out with rfl | ⟨m, y, rfl⟩
      · refine ⟨by simp [gstep, sumL], fun y hy => ?_⟩
        rcases List.mem_singleton.1 hy with rfl
        exact Int.le_refl _
      · rw [List.concat_eq_append] at hb hN ⊢
        have hy := hb y (by simp)
        rw [gstep_at]
        split
        · refine ⟨?_, fun z hz => ?_⟩
          · rw [sum_app, sum_app, sum_cons, sum_cons]; simp only [sumL, List.map_nil, List.sum_nil]; omega
          · rcases List.mem_append.1 hz with hz | hz
            · have := hb z (by simp [hz]); omega
            · rcases List.mem_singleton.1 hz with rfl
              simp only; omega
        · refine ⟨?_, fun z hz => ?_⟩
          · rw [sum_app, sum_cons (l := [])]; simp [sumL]
          · rcases List.mem_append.1 hz with hz | hz
            · have := hb z hz; omega
            · rcases List.mem_singleton.1 hz with rfl
              exact Int.le_refl _
    rw [List.foldl_cons, gath_sum l (gstep out x) x.2 (gstep_nf hN hx hr) hs.2 hl.2.2 (fun y hy => ho y (List.mem_cons_of_mem _ hy)), hs.1, sum_cons]
    omega
/-- The least whole slices that have a span. -/
def alignS (s : Sp) : Sp := (s.1 - s.1 % 4, if s.2 % 4 = 0 then s.2 else s.2 - s.2 % 4 + 4)
theorem align_cov {s : Sp} (h : s.1 < s.2) (a : Int) : ((alignS s).1 ≤ a ∧ a < (alignS s).2) ↔ ∃ b, b / 4 = a / 4 ∧ s.1 ≤ b ∧ b < s.2 := by
  unfold alignS
  simp only
  constructor
  · intro ha
    by_cases h1 : s.1 ≤ a
    · by_cases h2 : a < s.2
      · exact ⟨a, rfl, h1, h2⟩
      · refine ⟨s.2 - 1, ?_, by omega, by omega⟩
        split at ha <;> omega
    · exact ⟨s.1, by omega, by omega, h⟩
  · rintro ⟨b, h1, h2, h3⟩
    split <;> omega
end Go.Proofs.YtfcbmajogmojbaaGreatDoor
