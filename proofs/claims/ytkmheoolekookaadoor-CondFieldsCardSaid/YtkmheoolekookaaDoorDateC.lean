/-
  The tick of a day's second.
-/
import Derived.Test.YtkmheoolekookaaDoorDateB
namespace Go.Proofs.YtkmheoolekookaaDoor
open Go.RowKit DateM

def tickN (y m d s : Int) : Int := (aheadD y + cum y m + (d - 1)) * 86400 + s
def TickYes (y m d s : Int) (w : World) (e : Ending) (w' : World) : Prop :=
  e = .returned (.tuple #[.int .i64 (tickN y m d s), .int .i64 0]) ∧ Below w.heap.size w w'

set_option maxHeartbeats 1000000 in
theorem tick_yes (y m d k s : Int) (w : World) (hy1 : 1970 ≤ y) (hy2 : y ≤ 9999) (hm1 : 1 ≤ m) (hm2 : m ≤ 12) (hd1 : 1 ≤ d) (hd2 : d ≤ dim y m) (hs1 : 0 ≤ s) (hs2 : s < 86400) :
    Calls Tryd.prog 67 #[.agg #[.int .i64 y, .int .i64 m, .int .i64 d, .int .i64 k], .int .i64 s] w (TickYes y m d s w) := by
  have hb := ahead_bd y hy1 (by omega)
  have db := dim_bd y m
  have cb := cum_bd y m hm1 hm2
  have g1 : decide (d < 1) = false := by simp; omega
  have g2 : decide (dim y m < d) = false := by simp; omega
  have g3 : decide (s < 0) = false := by simp; omega
  have g4 : decide (86400 ≤ s) = false := by simp; omega
  go_enter Tryd.func67, Tryd.ntmps67
  go_wp2
  go_quiet ((go_at_call 83; exact quiet_left (long_any _ _ _)))
  go_wp2_with (go_at_call 82; refine (ahead_any _ _ (by omega) (by omega)).mono ?_; rintro e w' ⟨rfl, rfl⟩)
  clear g1 g2 g3 g4
  go_loop [6, 7] (fun r k => ∃ j : Int, 1 ≤ j ∧ j ≤ m ∧ k = .int .i64 j ∧ r = .int .i64 (aheadD y + cum y j)) (fun _ k => (12 - intOf k).toNat)
  case atStart => exact ⟨1, by omega, by omega, rfl, by simp [cum]⟩
  case round =>
    obtain ⟨j, hj1, hj2, rfl, rfl⟩ := hrel
    have dj := dim_bd y j
    have cj := cum_bd y j hj1 (by omega)
    by_cases hj : j < m
    · have HC := hide (cum_succ y j hj1 (by omega))
      go_wp2_with (go_at_call 83; refine (long_any _ _ _).mono ?_; rintro e w' ⟨rfl, rfl⟩)
      go_round
      case rel => exact ⟨j + 1, by omega, by omega, rfl, by rw [HC.out]; go_num⟩
      case measure => simp [intOf]; omega
    · obtain rfl : m = j := by omega
      go_wp2
      go_ret2
      exact ⟨ret_two (by unfold tickN; omega) rfl, below_drewN ((Below.refl _ _).alloc (Nat.le_refl _) _) _⟩

def TickNo (w : World) (e : Ending) (w' : World) : Prop :=
  e = .returned (.tuple #[.int .i64 0, .int .i64 1]) ∧ Below w.heap.size w w'

/-- A day that there is, and a second of it. -/
def dayB (y m d s : Int) : Bool := decide (1970 ≤ y ∧ y ≤ 9999 ∧ 1 ≤ m ∧ m ≤ 12 ∧ 1 ≤ d ∧ d ≤ dim y m ∧ 0 ≤ s ∧ s < 86400)

set_option maxHeartbeats 1000000 in
theorem tick_no1 (y m d k s : Int) (w : World) (h : y < 1970 ∨ 9999 < y ∨ m < 1 ∨ 12 < m) :
    Calls Tryd.prog 67 #[.agg #[.int .i64 y, .int .i64 m, .int .i64 d, .int .i64 k], .int .i64 s] w (TickNo w) := by
  by_cases h1 : y < 1970
  · go_enter Tryd.func67, Tryd.ntmps67
    go_wp2
    go_ret2
    exact ⟨rfl, ((Below.refl _ _).alloc (Nat.le_refl _) _)⟩
  · by_cases h2 : 9999 < y
    · go_enter Tryd.func67, Tryd.ntmps67
      go_wp2
      go_ret2
      exact ⟨rfl, ((Below.refl _ _).alloc (Nat.le_refl _) _)⟩
    · by_cases h3 : m < 1
      · go_enter Tryd.func67, Tryd.ntmps67
        go_wp2
        go_ret2
        exact ⟨rfl, ((Below.refl _ _).alloc (Nat.le_refl _) _)⟩
      · have h4 : 12 < m := by omega
        go_enter Tryd.func67, Tryd.ntmps67
        go_wp2
        go_ret2
        exact ⟨rfl, ((Below.refl _ _).alloc (Nat.le_refl _) _)⟩

set_option maxHeartbeats 1000000 in
theorem tick_no2 (y m d k s : Int) (w : World) (hy1 : 1970 ≤ y) (hy2 : y ≤ 9999) (hm1 : 1 ≤ m) (hm2 : m ≤ 12) (h : d < 1 ∨ dim y m < d ∨ s < 0 ∨ 86400 ≤ s) :
    Calls Tryd.prog 67 #[.agg #[.int .i64 y, .int .i64 m, .int .i64 d, .int .i64 k], .int .i64 s] w (TickNo w) := by
  have db := dim_bd y m
  by_cases h1 : d < 1
  · have g1 : decide (d < 1) = true := by simp; omega
    go_enter Tryd.func67, Tryd.ntmps67
    go_wp2
    go_quiet ((go_at_call 83; exact quiet_left (long_any _ _ _)))
    go_wp2
    go_ret2
    exact ⟨rfl, below_drewN ((Below.refl _ _).alloc (Nat.le_refl _) _) _⟩
  · have g1 : decide (d < 1) = false := by simp; omega
    by_cases h2 : dim y m < d
    · have g2 : decide (dim y m < d) = true := by simp; omega
      go_enter Tryd.func67, Tryd.ntmps67
      go_wp2
      go_quiet ((go_at_call 83; exact quiet_left (long_any _ _ _)))
      go_wp2
      go_ret2
      exact ⟨rfl, below_drewN ((Below.refl _ _).alloc (Nat.le_refl _) _) _⟩
    · have g2 : decide (dim y m < d) = false := by simp; omega
      by_cases h3 : s < 0
      · have g3 : decide (s < 0) = true := by simp; omega
        go_enter Tryd.func67, Tryd.ntmps67
        go_wp2
        go_quiet ((go_at_call 83; exact quiet_left (long_any _ _ _)))
        go_wp2
        go_ret2
        exact ⟨rfl, below_drewN ((Below.refl _ _).alloc (Nat.le_refl _) _) _⟩
      · have g3 : decide (s < 0) = false := by simp; omega
        have g4 : decide (86400 ≤ s) = true := by simp; omega
        go_enter Tryd.func67, Tryd.ntmps67
        go_wp2
        go_quiet ((go_at_call 83; exact quiet_left (long_any _ _ _)))
        go_wp2
        go_ret2
        exact ⟨rfl, below_drewN ((Below.refl _ _).alloc (Nat.le_refl _) _) _⟩
end Go.Proofs.YtkmheoolekookaaDoor
