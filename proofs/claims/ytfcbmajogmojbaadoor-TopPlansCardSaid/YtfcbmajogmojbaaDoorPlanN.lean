/-
  What is planned of gaps: plain words.
-/
import Derived.Test.YtfcbmajogmojbaaDoorRngH
import Derived.Test.YtfcbmajogmojbaaDoorRngF
import Derived.Test.YtfcbmajogmojbaaDoorPlanM
namespace Go.Proofs.YtfcbmajogmojbaaDoor
open Go.RowKit Go.Shelf
set_option linter.unusedVariables false
set_option linter.unusedSimpArgs false

theorem good_nf {l : List Sp} (h : ∀ x ∈ l, okS x) : goodL l = l := by
  unfold goodL
  rw [List.filter_eq_self]
  exact fun x hx => ok_good (h x hx)
theorem of_nfs {l : List Sp} (h : Nf l) : ofL l = l := nf_uniq (ofL_nf l) h fun a => by rw [ofL_cov, good_nf (nf_ok h)]
/-- As many spans as there may be within some bytes. -/
theorem nf_short : ∀ {l : List Sp} {lo hi : Int}, Nf l → (∀ a, Cov l a → lo ≤ a ∧ a < hi) → (l.length : Int) ≤ max 0 (hi - lo)
  | [], lo, hi, _, _ => by simp; omega
  | x :: l, lo, hi, hN, h => by
    have ho := hN.1
    unfold okS at ho
    have h1 := h x.1 (cov_cons.2 (.inl ⟨Int.le_refl _, ho.2.1⟩))
    have h2 := h (x.2 - 1) (cov_cons.2 (.inl ⟨by omega, by omega⟩))
    have := nf_short (lo := x.2) (hi := hi) hN.2.2 fun a ha => ⟨by have := nf_behind hN ha; omega, (h a (cov_cons.2 (.inr ha))).2⟩
    simp only [List.length_cons]
    omega
theorem laid_short : ∀ {l : List Sp} {lo hi : Int}, Laid lo l → (∀ x ∈ l, x.2 ≤ hi) → (l.length : Int) ≤ max 0 (hi - lo)
  | [], lo, hi, _, _ => by simp; omega
  | x :: l, lo, hi, h, hh => by
    have h1 := h.1
    have h2 := h.2.1
    have h3 := hh x (List.mem_cons_self ..)
    have := laid_short (lo := x.2) (hi := hi) h.2.2 fun y hy => hh y (List.mem_cons_of_mem _ hy)
    simp only [List.length_cons]
    omega
theorem find_of : ∀ {l : List Sp} {x : Sp} {b : Int}, Nf l → x ∈ l → x.1 ≤ b → b < x.2 → findL l b = some x
  | [], x, b, _, hx, _, _ => by cases hx
  | y :: l, x, b, hN, hx, h1, h2 => by
    unfold findL
    rcases List.mem_cons.1 hx with rfl | hm
    · rw [List.find?_cons_of_pos (by simpa using h2)]
    · have hy := hN.2.1 x hm
      rw [List.find?_cons_of_neg (by simp; omega)]
      exact find_of hN.2.2 hm h1 h2
/-- A set of whole slices of an object of 120 bytes. -/
structure SetP (l : List Sp) : Prop where
  nf : Nf l
  uc : Uc (Cov l)
  inn : ∀ a, Cov l a → 0 ≤ a ∧ a < 120
theorem within_len {l : List Sp} (h : Nf l) (hi : ∀ a, Cov l a → 0 ≤ a ∧ a < 120) : l.length ≤ 120 := by
  have := nf_short (lo := 0) (hi := 120) h hi
  omega
theorem SetP.len {l : List Sp} (h : SetP l) : l.length ≤ 120 := within_len h.nf h.inn
theorem within_hi {l : List Sp} (h : Nf l) (hi : ∀ a, Cov l a → 0 ≤ a ∧ a < 120) : ∀ x ∈ l, 0 ≤ x.1 ∧ x.2 ≤ 120 := fun x hx => by
  have ho := nf_ok h x hx
  unfold okS at ho
  have h1 := hi x.1 (cov_in hx (by omega))
  have h2 := hi (x.2 - 1) (cov_in hx (by omega))
  omega
theorem SetP.nil : SetP [] := ⟨trivial, fun a b _ h => (cov_nil a h).elim, fun a h => (cov_nil a h).elim⟩
/-- The bytes of slice no. -/
def unitS (no : Int) : Sp := (no * 4, no * 4 + 4)
theorem unit_ok {no : Int} (h : 0 ≤ no ∧ no < 30) : okS (unitS no) := by unfold okS unitS; simp only; omega
theorem unit_nf {no : Int} (h : 0 ≤ no ∧ no < 30) : Nf [unitS no] := ⟨unit_ok h, fun y h => (by cases h), trivial⟩
theorem unit_of {no : Int} (h : 0 ≤ no ∧ no < 30) : ofL [unitS no] = [unitS no] := of_nfs (unit_nf h)
theorem unit_set {no : Int} (h : 0 ≤ no ∧ no < 30) : SetP [unitS no] :=
  ⟨unit_nf h, (Uc.span no (no + 1)).to fun a => by rw [cov_one]; unfold unitS; simp only; omega, fun a ha => by rw [cov_one] at ha; unfold unitS at ha; simp only at ha; omega⟩
theorem SetP.or_ {l m : List Sp} (h : SetP l) (k : SetP m) : SetP (orL l m) :=
  ⟨orL_nf h.nf k.nf, (h.uc.or k.uc).to fun a => (orL_cov h.nf k.nf a).symm, fun a ha => ((orL_cov h.nf k.nf a).1 ha).elim (h.inn a) (k.inn a)⟩
theorem SetP.less {l m : List Sp} (h : SetP l) (k : SetP m) : SetP (lessL l m) :=
  ⟨lessL_nf _ _ h.nf k.nf, (h.uc.and k.uc.not).to fun a => (lessL_cov _ _ h.nf k.nf a).symm, fun a ha => h.inn a ((lessL_cov _ _ h.nf k.nf a).1 ha).1⟩
abbrev allP : List Sp := [(0, 120)]
theorem all_nf : Nf allP := ⟨by unfold okS; simp, fun y h => (by cases h), trivial⟩
theorem all_cov (a : Int) : Cov allP a ↔ 0 ≤ a ∧ a < 120 := cov_one
theorem SetP.all : SetP allP := ⟨all_nf, (Uc.span 0 30).to fun a => by rw [all_cov]; omega, fun a => (all_cov a).1⟩
theorem all_of : ofL allP = allP := of_nfs all_nf
/-- Gaps and free bytes that can be planned. -/
structure PlanOk (g f : List Sp) : Prop where
  ng : Nf g
  sf : SetP f
  le : ∀ a, Cov g a → Cov f a
theorem PlanOk.inn {g f : List Sp} (h : PlanOk g f) (a : Int) (ha : Cov g a) : 0 ≤ a ∧ a < 120 := h.sf.inn a (h.le a ha)
theorem PlanOk.glen {g f : List Sp} (h : PlanOk g f) : g.length ≤ 120 := within_len h.ng h.inn
theorem PlanOk.and_all {g f : List Sp} (h : PlanOk g f) : andL g allP = g :=
  nf_uniq (andL_nf _ _ h.ng all_nf) h.ng fun a => by rw [andL_cov _ _ h.ng all_nf, all_cov]; exact ⟨fun e => e.1, fun e => ⟨e, h.inn a e⟩⟩
/-- The gaps, widened. -/
def wideL (g : List Sp) : List Sp := ofL (g.map alignS)
theorem wide_nf (g : List Sp) : Nf (wideL g) := ofL_nf _
theorem align_ok {s : Sp} (h : okS s) (h2 : s.2 ≤ 120) : okS (alignS s) := by
  unfold okS at h ⊢
  unfold alignS
  simp only
  split <;> omega
theorem PlanOk.aok {g f : List Sp} (h : PlanOk g f) : ∀ x ∈ g.map alignS, okS x := fun x hx => by
  obtain ⟨y, hy, rfl⟩ := List.mem_map.1 hx
  exact align_ok (nf_ok h.ng y hy) (within_hi h.ng h.inn y hy).2
theorem PlanOk.wcov {g f : List Sp} (h : PlanOk g f) (a : Int) : Cov (wideL g) a ↔ ∃ b, b / 4 = a / 4 ∧ Cov g b := by
  unfold wideL
  rw [ofL_cov, good_nf h.aok]
  constructor
  · rintro ⟨x, hx, ha⟩
    obtain ⟨y, hy, rfl⟩ := List.mem_map.1 hx
    obtain ⟨b, h1, h2⟩ := (align_cov (nf_ok h.ng y hy).2.1 a).1 ha
    exact ⟨b, h1, cov_in hy h2⟩
  · rintro ⟨b, h1, y, hy, h2⟩
    exact ⟨alignS y, List.mem_map_of_mem hy, (align_cov (nf_ok h.ng y hy).2.1 a).2 ⟨b, h1, h2⟩⟩
theorem PlanOk.wle {g f : List Sp} (h : PlanOk g f) (a : Int) (ha : Cov (wideL g) a) : Cov f a := by
  obtain ⟨b, h1, h2⟩ := (h.wcov a).1 ha
  exact h.sf.uc b a h1 (h.le b h2)
theorem PlanOk.wset {g f : List Sp} (h : PlanOk g f) : SetP (wideL g) :=
  ⟨ofL_nf _, fun a b e ha => by obtain ⟨c, h1, h2⟩ := (h.wcov a).1 ha; exact (h.wcov b).2 ⟨c, by omega, h2⟩, fun a ha => h.sf.inn a (h.wle a ha)⟩
theorem PlanOk.wand {g f : List Sp} (h : PlanOk g f) : andL (wideL g) allP = wideL g :=
  nf_uniq (andL_nf _ _ (wide_nf g) all_nf) (wide_nf g) fun a => by rw [andL_cov _ _ (wide_nf g) all_nf, all_cov]; exact ⟨fun e => e.1, fun e => ⟨e, h.wset.inn a e⟩⟩
theorem nf_none {l : List Sp} (hN : Nf l) (h : ∀ a, ¬ Cov l a) : l = [] := nf_uniq hN (m := []) trivial fun a => ⟨fun e => (h a e).elim, fun e => (cov_nil a e).elim⟩
theorem PlanOk.wless {g f : List Sp} (h : PlanOk g f) : lessL (wideL g) f = [] :=
  nf_none (lessL_nf _ _ (wide_nf g) h.sf.nf) fun a ha => by rw [lessL_cov _ _ (wide_nf g) h.sf.nf] at ha; exact ha.2 (h.wle a ha.1)
theorem first_nil (b : Int) : firstL [] b = none := rfl
/-- The plan's pieces. -/
structure PieceOk (f wd : List Sp) (s : Sp) : Prop where
  ok : okS s
  lo : 0 ≤ s.1
  hi : s.2 ≤ 120
  m1 : s.1 % 4 = 0
  m2 : s.2 % 4 = 0
  len : s.2 - s.1 ≤ 64
  holds : holdsL f s.1 s.2 = true
  waste : lessL (ofL [s]) wd = []
theorem plan_lo {g f : List Sp} (h : PlanOk g f) : Laid 0 (planL (wideL g)) := (plan_all h.wset.nf).1 0 fun x hx => (within_hi h.wset.nf h.wset.inn x hx).1
theorem laid_lt : ∀ {l : List Sp} {lo : Int}, Laid lo l → ∀ x ∈ l, lo ≤ x.1 ∧ x.1 < x.2
  | [], _, _, x, hx => by cases hx
  | y :: l, lo, h, x, hx => by
    rcases List.mem_cons.1 hx with rfl | hx
    · exact ⟨h.1, h.2.1⟩
    · have := laid_lt h.2.2 x hx
      have h1 := h.1
      have h2 := h.2.1
      exact ⟨by omega, this.2⟩
theorem plan_piece {g f : List Sp} (h : PlanOk g f) : ∀ s ∈ planL (wideL g), PieceOk f (wideL g) s := by
  intro s hs
  obtain ⟨_, p2, p3, p4⟩ := plan_all h.wset.nf
  have hlt := laid_lt (plan_lo h) s hs
  have hin : ∀ a, s.1 ≤ a → a < s.2 → Cov (wideL g) a := fun a h1 h2 => (p2 a).1 (cov_in hs ⟨h1, h2⟩)
  have h1 := h.wset.inn s.1 (hin _ (Int.le_refl _) hlt.2)
  have h2 := h.wset.inn (s.2 - 1) (hin _ (by omega) (by omega))
  have ho : okS s := ⟨by omega, hlt.2, by omega⟩
  have hm := p4 (uc_ends h.wset.nf h.wset.uc) s hs
  have hn : Nf [s] := ⟨ho, fun y h => (by cases h), trivial⟩
  refine ⟨ho, by omega, by omega, hm.1, hm.2, p3 s hs, ?_, ?_⟩
  · obtain ⟨x, hx, a1, a2⟩ := nf_one h.sf.nf hlt.2 fun a h1 h2 => h.wle a (hin a h1 h2)
    have hr : rightB s.1 s.2 = true := by unfold rightB; simp; omega
    refine holds_some (y := x) hr (by omega) (find_of h.sf.nf hx a1 (by omega)) ?_
    simp; omega
  · rw [of_nfs hn]
    refine nf_none (lessL_nf _ _ hn h.wset.nf) fun a ha => ?_
    rw [lessL_cov _ _ hn h.wset.nf, cov_one] at ha
    exact ha.2 (hin a ha.1.1 ha.1.2)
theorem plan_hi {g f : List Sp} (h : PlanOk g f) : ∀ s ∈ planL (wideL g), s.2 ≤ 120 := fun s hs => (plan_piece h s hs).hi
theorem plan_len {g f : List Sp} (h : PlanOk g f) : (planL (wideL g)).length ≤ 120 := by
  have := laid_short (hi := 120) (plan_lo h) (plan_hi h)
  omega
theorem plan_okS {g f : List Sp} (h : PlanOk g f) : ∀ s ∈ planL (wideL g), okS s := fun s hs => (plan_piece h s hs).ok
theorem got_cov {g f : List Sp} (h : PlanOk g f) (a : Int) : Cov (ofL (planL (wideL g))) a ↔ Cov (wideL g) a := by
  rw [ofL_cov, good_nf (plan_okS h)]
  exact (plan_all h.wset.nf).2.1 a
theorem got_len {g f : List Sp} (h : PlanOk g f) : (ofL (planL (wideL g))).length ≤ 120 := Nat.le_trans (ofL_len _) (plan_len h)
theorem plan_left {g f : List Sp} (h : PlanOk g f) : lessL (wideL g) (ofL (planL (wideL g))) = [] :=
  nf_none (lessL_nf _ _ (wide_nf g) (ofL_nf _)) fun a ha => by rw [lessL_cov _ _ (wide_nf g) (ofL_nf _), got_cov h] at ha; exact ha.2 ha.1
theorem laid_rise : ∀ {l : List Sp} {lo : Int}, Laid lo l → Rise l
  | [], _, _ => trivial
  | x :: l, lo, h => ⟨fun y hy => by have := laid_lt h.2.2 y hy; have := h.2.1; omega, laid_rise h.2.2⟩
theorem got_sum {g f : List Sp} (h : PlanOk g f) : sumL (ofL (planL (wideL g))) = sumL (planL (wideL g)) := by
  have hr := laid_rise (plan_lo h)
  have e : ofL (planL (wideL g)) = gathL (planL (wideL g)) := nf_uniq (ofL_nf _) (gath_nf (plan_okS h) hr) fun a => by
    rw [ofL_cov, good_nf (plan_okS h), gath_cov (plan_okS h) hr]
  rw [e]
  have := gath_sum (planL (wideL g)) [] 0 trivial (fun y h => by cases h) (plan_lo h) (plan_okS h)
  unfold gathL
  rw [this]
  simp [sumL]
/-- How a plan is made, piece by piece. -/
def endS (x : Sp) : Int := if x.2 - x.1 ≤ 64 then x.2 else x.1 + 64
theorem plan_step {x : Sp} {l : List Sp} : planL (x :: l) = (x.1, endS x) :: planL (if x.2 ≤ endS x then l else (max x.1 (endS x), x.2) :: l) := by
  unfold endS
  by_cases h : x.2 - x.1 ≤ 64
  · rw [if_pos h, if_pos (Int.le_refl _), plan_short h]
  · rw [if_neg h, if_neg (by omega), plan_long h, show max x.1 (x.1 + 64) = x.1 + 64 by omega]
/-- Spans that a plan has still to fetch. -/
def Todo (f l : List Sp) : Prop := Nf l ∧ (∀ a, Cov l a → Cov f a) ∧ ∀ x ∈ l, 0 ≤ x.1 ∧ x.2 ≤ 120
theorem todo_start {g f : List Sp} (h : PlanOk g f) : Todo f (wideL g) := ⟨h.wset.nf, h.wle, within_hi h.wset.nf h.wset.inn⟩
theorem todo_next {f l : List Sp} {x : Sp} (h : Todo f (x :: l)) : Todo f (if x.2 ≤ endS x then l else (max x.1 (endS x), x.2) :: l) := by
  obtain ⟨h1, h2, h3⟩ := h
  split
  · exact ⟨h1.2.2, fun a ha => h2 a (cov_cons.2 (.inr ha)), fun y hy => h3 y (List.mem_cons_of_mem _ hy)⟩
  · rename_i hn
    have ho := h1.1
    unfold okS at ho
    have e : endS x = x.1 + 64 := by
      unfold endS at hn ⊢
      by_cases c : x.2 - x.1 ≤ 64
      · rw [if_pos c] at hn; omega
      · rw [if_neg c]
    rw [e] at hn
    rw [e, show max x.1 (x.1 + 64) = x.1 + 64 by omega]
    refine ⟨⟨⟨by simp only; omega, by simp only; omega, by simp only; omega⟩, h1.2.1, h1.2.2⟩, fun a ha => ?_, fun y hy => ?_⟩
    · rcases cov_cons.1 ha with hc | hc
      · exact h2 a (cov_cons.2 (.inl ⟨by simp only at hc; omega, by simp only at hc; omega⟩))
      · exact h2 a (cov_cons.2 (.inr hc))
    · rcases List.mem_cons.1 hy with rfl | hy
      · have := h3 x (List.mem_cons_self ..); simp only; omega
      · exact h3 y (List.mem_cons_of_mem _ hy)
theorem todo_first {f l : List Sp} {x : Sp} (hf : Nf f) (h : Todo f (x :: l)) : ∃ r : Sp, firstL f x.1 = some r ∧ r.1 = x.1 ∧ x.1 < r.2 := by
  obtain ⟨h1, h2, h3⟩ := h
  have ho := h1.1
  unfold okS at ho
  obtain ⟨y, hy, a1, a2⟩ := h2 x.1 (cov_cons.2 (.inl ⟨Int.le_refl _, ho.2.1⟩))
  refine ⟨(max x.1 y.1, y.2), ?_, by simp only; omega, a2⟩
  unfold firstL
  rw [find_of hf hy a1 a2]
  rfl
/-- What is needed, less what is kept or to come. -/
theorem plan_ok {nd th fl : List Sp} (hn : Nf nd) (ht : SetP th) (hf : SetP fl) : PlanOk (lessL (lessL (andL nd allP) th) (lessL fl th)) (lessL (lessL allP th) (lessL fl th)) := by
  have hx := hf.less ht
  have ha := SetP.all.less ht
  have h1 := andL_nf _ _ hn all_nf
  have h2 := lessL_nf _ _ h1 ht.nf
  refine ⟨lessL_nf _ _ h2 hx.nf, ha.less hx, fun a => ?_⟩
  rw [lessL_cov _ _ h2 hx.nf, lessL_cov _ _ h1 ht.nf, andL_cov _ _ hn all_nf, lessL_cov _ _ ha.nf hx.nf, lessL_cov _ _ all_nf ht.nf]
  exact fun e => ⟨⟨e.1.1.2, e.1.2⟩, e.2⟩
theorem got_there {g th fl : List Sp} (ht : SetP th) (hx : SetP fl) (h : PlanOk g (lessL (lessL allP th) fl)) : andL (ofL (planL (wideL g))) th = [] := by
  refine nf_none (andL_nf _ _ (ofL_nf _) ht.nf) fun a ha => ?_
  rw [andL_cov _ _ (ofL_nf _) ht.nf, got_cov h] at ha
  have := h.wle a ha.1
  rw [lessL_cov _ _ (SetP.all.less ht).nf hx.nf, lessL_cov _ _ all_nf ht.nf] at this
  exact this.1.2 ha.2
theorem got_fly {g th fl : List Sp} (ht : SetP th) (hx : SetP fl) (h : PlanOk g (lessL (lessL allP th) fl)) : andL (ofL (planL (wideL g))) fl = [] := by
  refine nf_none (andL_nf _ _ (ofL_nf _) hx.nf) fun a ha => ?_
  rw [andL_cov _ _ (ofL_nf _) hx.nf, got_cov h] at ha
  have := h.wle a ha.1
  rw [lessL_cov _ _ (SetP.all.less ht).nf hx.nf] at this
  exact this.2 ha.2
theorem got_gaps {g f : List Sp} (h : PlanOk g f) : lessL g (ofL (planL (wideL g))) = [] :=
  nf_none (lessL_nf _ _ h.ng (ofL_nf _)) fun a ha => by rw [lessL_cov _ _ h.ng (ofL_nf _), got_cov h, h.wcov] at ha; exact ha.2 ⟨a, rfl, ha.1⟩
theorem sum_nil : sumL [] = 0 := rfl

end Go.Proofs.YtfcbmajogmojbaaDoor
