/-
  What the calendar's statements still want of their callees.
-/
import Derived.Test.YtfbefjpajmigmaaDateW
namespace Go.Proofs.Ytfbefjpajmigmaa
open Go.RowKit DateM Go.Lib

set_option maxHeartbeats 400000 in
theorem same_any (a b c d : Int) (w : World) : Calls Try.prog 23 #[.agg #[.int .i64 a, .int .i64 b, .int .i64 c, .int .i64 d], .agg #[.int .i64 a, .int .i64 b, .int .i64 c, .int .i64 d]] w (TrueOk w) := by
  go_enter Try.func23, Try.ntmps23
  go_wp2
  go_ret
  exact ⟨ret_bool (by simp), ((Below.refl _ _).alloc (Nat.le_refl _) _).alloc (by simp) _⟩

def TextNone (w : World) (e : Ending) (w' : World) : Prop := e = .returned (.tuple #[.string ⟨#[]⟩, .int .i64 1]) ∧ Below w.heap.size w w'

set_option maxHeartbeats 400000 in
theorem text_no (t : Int) (w : World) (h : t < 0 ∨ 253402300799 < t) : Calls Try.prog 26 #[.int .i64 t] w (TextNone w) := by
  rcases h with h | h
  · go_enter Try.func26, Try.ntmps26
    go_wp2
    go_ret2
    exact ⟨rfl, Below.refl _ _⟩
  · have h' : ¬ t < 0 := by omega
    go_enter Try.func26, Try.ntmps26
    go_wp2
    go_ret2
    exact ⟨rfl, Below.refl _ _⟩

set_option maxHeartbeats 400000 in
theorem rtext_no (t : Int) (w : World) (h : t < 0 ∨ 253402300799 < t) : Calls Try.prog 27 #[.int .i64 t] w (TextNone w) := by
  rcases h with h | h
  · go_enter Try.func27, Try.ntmps27
    go_wp2
    go_ret2
    exact ⟨rfl, Below.refl _ _⟩
  · have h' : ¬ t < 0 := by omega
    go_enter Try.func27, Try.ntmps27
    go_wp2
    go_ret2
    exact ⟨rfl, Below.refl _ _⟩

/-- the program's 'Tick', as a whole, where the day is none -/
theorem tick_none (y m d k s : Int) (w : World) (h : dayB y m d s = false) :
    Calls Try.prog 24 #[.agg #[.int .i64 y, .int .i64 m, .int .i64 d, .int .i64 k], .int .i64 s] w (TickNo w) := by
  by_cases hx : y < 1970 ∨ 9999 < y ∨ m < 1 ∨ 12 < m
  · exact tick_no1 y m d k s w hx
  · refine tick_no2 y m d k s w (by omega) (by omega) (by omega) (by omega) ?_
    simp only [dayB, decide_eq_false_iff_not] at h
    omega
theorem dayB_out {y m d s : Int} (h : dayB y m d s = true) : 1970 ≤ y ∧ y ≤ 9999 ∧ 1 ≤ m ∧ m ≤ 12 ∧ 1 ≤ d ∧ d ≤ dim y m ∧ 0 ≤ s ∧ s < 86400 := by
  simpa only [dayB, decide_eq_true_eq] using h

theorem Told.uniq {t y m d k s y' m' d' k' s' : Int} (h : Told t y m d k s) (h' : Told t y' m' d' k' s') : y = y' ∧ m = m' ∧ d = d' ∧ k = k' ∧ s = s' := by
  obtain ⟨h1, rfl, rfl⟩ := h
  obtain ⟨h2, rfl, rfl⟩ := h'
  obtain ⟨rfl, rfl, rfl⟩ := h1.uniq h2
  exact ⟨rfl, rfl, rfl, rfl, rfl⟩

theorem day_cells' {w1 wN : World} {a b c d : Value} {T : TypeId} (hb : Below (w1.alloc (.cells #[a, b, c, d] T)).heap.size (w1.alloc (.cells #[a, b, c, d] T)) wN) :
    wN.cell? ⟨w1.heap.size, 0, none⟩ = some a ∧ wN.cell? ⟨w1.heap.size, 1, none⟩ = some b ∧ wN.cell? ⟨w1.heap.size, 2, none⟩ = some c ∧ wN.cell? ⟨w1.heap.size, 3, none⟩ = some d :=
  day_cells (hb.mono (by simp))

theorem cell_lt {w : World} {a : Addr} {v : Value} (h : w.cell? a = some v) : a.block < w.heap.size := by
  rcases Nat.lt_or_ge a.block w.heap.size with hlt | hge
  · exact hlt
  · simp [World.cell?, Array.getElem?_eq_none hge] at h
theorem cell_later' {w w' : World} {a : Addr} {v : Value} (hb : Below w.heap.size w w') (h : w.cell? a = some v) : w'.cell? a = some v := by
  rw [hb.cell (cell_lt h)]; exact h

theorem chain5 {w w1 w2 w3 w4 : World} {o o' : Obj} (h1 : Below w.heap.size w w1) (h2 : Below w1.heap.size w1 w2) (h3 : Below (w2.alloc o).heap.size (w2.alloc o) w3)
    (h4 : Below (w3.alloc o').heap.size (w3.alloc o') w4) : Below w.heap.size w w4 := by
  have z1 := h1.size
  have z2 := h2.size
  have z3 := h3.size
  simp only [World.size_alloc] at z3
  have a1 := (h1.trans (h2.mono z1)).alloc (Nat.le_trans z1 z2) o
  have a2 := (a1.trans (h3.mono (by simp; omega))).alloc (by omega) o'
  exact a2.trans (h4.mono (by simp; omega))
end Go.Proofs.Ytfbefjpajmigmaa
