/-
  What a plan goes through, span by span.
-/
import Derived.Test.YtfcbmajogmojbaaDoorPlE
namespace Go.Proofs.YtfcbmajogmojbaaDoor
open Go.RowKit Go.Shelf
set_option linter.unusedVariables false
set_option linter.unusedSimpArgs false

def lenV : Value → Nat
  | .slice _ n _ => n
  | _ => 0
/-- A slice that reads as spans: of block g, if there are any. -/
structure RowS (n g : Nat) (w : World) (v : Value) (l : List Sp) : Prop where
  rd : RdL LSp w n v l
  own : l ≠ [] → (∃ off c, v = .slice (some ⟨g, off, none⟩) l.length c) ∧ ∃ cs, Blk w g 31 cs
theorem RowS.keep {n g : Nat} {w w' : World} {v : Value} {l : List Sp} (h : RowS n g w v l) (hg : g < n) (hb : ∀ j, j < n → w'.heap[j]? = w.heap[j]?) : RowS n g w' v l := by
  refine ⟨RdL.keep h.rd (Nat.le_refl _) fun b o u hlt _ hc => ?_, fun hn => ⟨(h.own hn).1, ?_⟩⟩
  · simpa [World.cell?, hb b hlt] using hc
  · obtain ⟨cs, hk⟩ := (h.own hn).2
    exact ⟨cs, (hb g hg).trans hk⟩
theorem RowS.below {n g C : Nat} {w w' : World} {v : Value} {l : List Sp} (h : RowS n g w v l) (hg : g < n) (hb : Below C w w') (hC : n ≤ C) : RowS n g w' v l := h.keep hg fun j hj => hb.block j (by omega)
theorem RowS.grown {n g : Nat} {w w' : World} {v : Value} {l : List Sp} {row : Option Nat} (h : RowS n g w v l) (hg : g < n) (hn : n ≤ w.heap.size) (hb : w.grownBy w' row) (hr : ∀ k, row = some k → n ≤ k) : RowS n g w' v l := h.keep hg fun j hj => hb.block j (by omega) (fun e => by have := hr j e.symm; omega)
theorem RowS.at_ {n g : Nat} {w : World} {v : Value} {x : Sp} {l : List Sp} (h : RowS n g w v (x :: l)) : ∃ off c, v = .slice (some ⟨g, off, none⟩) (l.length + 1) c ∧ l.length + 1 ≤ c ∧ c ≤ 9223372036854775807 ∧ w.cell? ⟨g, off, none⟩ = some (.int .i64 x.1) ∧ w.cell? ⟨g, off + 1, none⟩ = some (.int .i64 x.2) ∧ w.frozen? ⟨g, off, none⟩ = false ∧ g < w.heap.size := by
  obtain ⟨⟨off, c, hv⟩, cs, hk⟩ := h.own (by simp)
  obtain ⟨A', c', hv', h1, h2⟩ := h.rd.form
  rw [hv] at hv'
  cases hv'
  have hr := h.rd
  rw [hv] at hr
  obtain ⟨b, o, e, _, p0, p1⟩ := hr.span 0 (by simp)
  cases e
  simp only [Nat.zero_mul, Nat.add_zero, List.getElem_cons_zero] at p0 p1
  exact ⟨off, c, by rw [hv]; rfl, h1, h2, p0, p1, hk.frozen off, hk.lt⟩
/-- The first span begins elsewhere. -/
theorem RowS.set_ {n g off c m : Nat} {w : World} {x : Sp} {l : List Sp} (h : RowS n g w (.slice (some ⟨g, off, none⟩) m c) (x :: l)) (a : Int) : RowS n g (w.setCell ⟨g, off, none⟩ (.int .i64 a)) (.slice (some ⟨g, off, none⟩) m c) ((a, x.2) :: l) := by
  obtain ⟨_, cs, hk⟩ := h.own (by simp)
  obtain ⟨h0, A', c', hv, h1, h2, hc⟩ := h.rd
  cases hv
  refine ⟨⟨h0, _, _, rfl, h1, h2, fun i hi => ?_⟩, fun _ => ⟨⟨_, _, rfl⟩, _, hk.set_ off _⟩⟩
  obtain ⟨b, o, e, hb, hcell⟩ := hc i hi
  cases e
  refine ⟨_, _, rfl, hb, fun j u hu => ?_⟩
  have hj : j < 2 := by
    have := (List.getElem?_eq_some_iff.1 hu).1
    rw [LSp.len] at this; exact this
  rcases i with _ | i
  · rcases j with _ | j
    · have e : u = .int .i64 a := (Option.some.inj hu).symm
      subst e
      rw [Nat.zero_mul]
      show (w.setCell ⟨g, off, none⟩ (.int .i64 a)).cell? ⟨g, off, none⟩ = _
      rw [Blk.cell (hk.set_ off _)]
      have hlt : off < cs.size := by
        have h3 := hcell 0 (.int .i64 x.1) rfl
        rw [Nat.zero_mul] at h3
        have h4 : w.cell? ⟨g, off, none⟩ = some (.int .i64 x.1) := h3
        rw [hk.cell] at h4
        exact (Array.getElem?_eq_some_iff.1 h4).1
      simp [hlt]
    · obtain rfl : j = 0 := by omega
      rw [World.cell?_setCell_other w _ _ _ (fun e => by simp [LSp] at e)]
      exact hcell 1 u hu
  · rw [World.cell?_setCell_other w _ _ _ (fun e => by simp [LSp] at e; omega)]
    exact hcell j u hu
/-- 'l[1:]'. -/
theorem RowS.cut {n g off c : Nat} {w : World} {x : Sp} {l : List Sp} (h : RowS n g w (.slice (some ⟨g, off, none⟩) (l.length + 1) c) (x :: l)) :
    ∃ v : Value, (∀ W, (Instr.slice 26 (.slice (some ⟨g, off, none⟩) (l.length + 1) c) (some (.int .i64 1)) none none).run Tryd.prog W = .ok v W) ∧ RowS n g w v l ∧ lenV v = l.length := by
  obtain ⟨_, cs, hk⟩ := h.own (by simp)
  obtain ⟨h0, A', c', hv, h1, h2, hc⟩ := h.rd
  cases hv
  have ht : Tryd.prog.underlying 26 = some (.slice (Tryd.prog.elem 26)) := by kernel_rfl
  have hs : ∀ W, (sizeOf (Tryd.prog.elem 26)).run Tryd.prog W = .ok 2 W := fun W => by kernel_rfl
  have hl : (x :: l).length = l.length + 1 := rfl
  rw [hl] at h1
  have hrun : ∀ W, (Instr.slice 26 (.slice (some ⟨g, off, none⟩) (l.length + 1) c) (some (.int .i64 1)) none none).run Tryd.prog W = .ok (.slice (if c = 1 then some ⟨g, off, none⟩ else some ⟨g, off + 2, none⟩) l.length (c - 1)) W := fun W => by
    have := run_slice_l W 26 (some ⟨g, off, none⟩) (l.length + 1) c ht .i64 (1 : Int) (by omega) (by omega)
    rw [this, hs]
    simp only [Result.andThen_ok]
    unfold sliced
    simp [Addr.add]
  refine ⟨_, hrun, ⟨⟨by omega, _, _, rfl, by omega, by omega, fun i hi => ?_⟩, fun hn => ?_⟩, rfl⟩
  · have hc1 : ¬ c = 1 := by omega
    rw [if_neg hc1]
    obtain ⟨b, o, e, hb, hcell⟩ := hc (i + 1) (by simpa using hi)
    cases e
    refine ⟨_, _, rfl, hb, fun j u hu => ?_⟩
    have := hcell j u (by simpa using hu)
    rw [show off + 2 + i * LSp.n + j = off + (i + 1) * LSp.n + j by simp only [LSp]; omega]
    exact this
  · have hc1 : ¬ c = 1 := by
      have : l.length ≠ 0 := by simpa using hn
      omega
    rw [if_neg hc1]
    exact ⟨⟨_, _, rfl⟩, cs, hk⟩
theorem RowS.of_own {n g c : Nat} {B : Nat} {w : World} {l : List Sp} (h : OwnL LSp B w (.slice (some ⟨g, 0, none⟩) l.length c) l) (hn : w.heap.size ≤ n) : RowS n g w (.slice (some ⟨g, 0, none⟩) l.length c) l := by
  refine ⟨h.rd.mono hn, fun _ => ⟨⟨_, _, rfl⟩, ?_⟩⟩
  rcases h.2 with ⟨e, _⟩ | ⟨g', cap, cur, e, _, hk, _⟩
  · cases e
  · cases e
    exact ⟨cur, hk⟩
theorem row_of {B a g0 : Nat} {w : World} {v : Value} {l : List Sp} (h : OwnL LSp B w v l) (ha : a ≤ B) (h0 : a ≤ g0) (h1 : g0 < w.heap.size) : ∃ g, RowS w.heap.size g w v l ∧ a ≤ g ∧ g < w.heap.size := by
  have hl := OwnL.lt h
  rcases h.2 with ⟨rfl, hz⟩ | ⟨g, cap, cur, rfl, hbg, hk, hn⟩
  · have e : l = [] := List.eq_nil_of_length_eq_zero hz
    exact ⟨g0, ⟨h.rd, fun hne => absurd e hne⟩, h0, h1⟩
  · have := hl g rfl
    exact ⟨g, RowS.of_own h (Nat.le_refl _), by omega, this.2⟩
/-- What is left behind a fetch. -/
def nextL (x : Sp) (l : List Sp) : List Sp := if x.2 ≤ endS x then l else (max x.1 (endS x), x.2) :: l
theorem end_le (x : Sp) : endS x ≤ x.2 := by unfold endS; split <;> omega
theorem next_pop {x : Sp} {l : List Sp} (hN : Nf (x :: l)) (h : x.2 ≤ endS x) : nextL x l = l ∧ ∀ y ∈ l, ¬ y.2 ≤ endS x ∧ (max y.1 (endS x), y.2) = y := by
  refine ⟨by unfold nextL; rw [if_pos h], fun y hy => ?_⟩
  have h1 := hN.2.1 y hy
  have h2 := nf_ok hN.2.2 y hy
  unfold okS at h2
  have h3 := end_le x
  refine ⟨by omega, ?_⟩
  rw [show max y.1 (endS x) = y.1 by omega]
theorem next_not {x : Sp} {l : List Sp} (h : ¬ x.2 ≤ endS x) : nextL x l = (max x.1 (endS x), x.2) :: l := by unfold nextL; rw [if_neg h]
theorem plan_stepN (x : Sp) (l : List Sp) : planL (x :: l) = (x.1, endS x) :: planL (nextL x l) := plan_step
theorem todo_nextN {f l : List Sp} {x : Sp} (h : Todo f (x :: l)) : Todo f (nextL x l) := todo_next h
theorem exit_of {x : Sp} {l l2 : List Sp} (hN : Nf (x :: l)) (h : l2 = x :: l ∨ (l2 = l ∧ x.2 ≤ endS x)) (hn : ¬ (l2 = x :: l ∧ x.2 ≤ endS x)) : (l2 = [] ∧ nextL x l = []) ∨ ∃ z zs, l2 = z :: zs ∧ ¬ z.2 ≤ endS x ∧ nextL x l = (max z.1 (endS x), z.2) :: zs := by
  rcases h with rfl | ⟨rfl, h⟩
  · have h1 : ¬ x.2 ≤ endS x := fun h => hn ⟨rfl, h⟩
    exact .inr ⟨x, l, rfl, h1, next_not h1⟩
  · obtain ⟨h1, h2⟩ := next_pop hN h
    rw [h1]
    cases l2 with
    | nil => exact .inl ⟨rfl, rfl⟩
    | cons z zs =>
      obtain ⟨h3, h4⟩ := h2 z (List.mem_cons_self ..)
      exact .inr ⟨z, zs, rfl, h3, by rw [h4]⟩
theorem Exb.setk {b n k : Nat} (W : World) (v : Value) : Exb b n W (W.setCell ⟨b, k, none⟩ v) := ⟨(KeepsWalks.setCell W _ v).size, fun j _ h => Below.heap_setCell _ _ _ j h⟩
theorem plan_out {out w : List Sp} {x : Sp} {l : List Sp} (h : out ++ planL (x :: l) = w) : out ++ [(x.1, endS x)] ++ planL (nextL x l) = w ∧ out.length < w.length := by
  rw [plan_stepN] at h
  refine ⟨by rw [← h]; simp, ?_⟩
  rw [← h]
  simp
def PlanIs (r : List Sp) (w : World) (e : Ending) (w' : World) : Prop := ∃ v, e = .returned (.tuple #[v, .int .i64 0]) ∧ OwnL LSp w.heap.size w' v r ∧ Below w.heap.size w w'

end Go.Proofs.YtfcbmajogmojbaaDoor
