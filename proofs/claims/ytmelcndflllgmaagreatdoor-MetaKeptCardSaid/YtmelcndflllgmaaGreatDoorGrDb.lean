/-
  Merged: DateC, DateD.
-/
import Derived.Test.YtmelcndflllgmaaGreatDoorGrDa
namespace Go.Proofs.YtmelcndflllgmaaGreatDoor
open Go.RowKit DateM

def tickN (y m d s : Int) : Int := (aheadD y + cum y m + (d - 1)) * 86400 + s
def TickYes (y m d s : Int) (w : World) (e : Ending) (w' : World) : Prop :=
  e = .returned (.tuple #[.int .i64 (tickN y m d s), .int .i64 0]) ∧ Below w.heap.size w w'

set_option maxHeartbeats 1000000 in
theorem tick_yes (y m d k s : Int) (w : World) (hy1 : 1970 ≤ y) (hy2 : y ≤ 9999) (hm1 : 1 ≤ m) (hm2 : m ≤ 12) (hd1 : 1 ≤ d) (hd2 : d ≤ dim y m) (hs1 : 0 ≤ s) (hs2 : s < 86400) :
    Calls Tryz.prog 61 #[.agg #[.int .i64 y, .int .i64 m, .int .i64 d, .int .i64 k], .int .i64 s] w (TickYes y m d s w) := by
  have hb := ahead_bd y hy1 (by omega)
  have db := dim_bd y m
  have cb := cum_bd y m hm1 hm2
  have g1 : decide (d < 1) = false := by simp; omega
  have g2 : decide (dim y m < d) = false := by simp; omega
  have g3 : decide (s < 0) = false := by simp; omega
  have g4 : decide (86400 ≤ s) = false := by simp; omega
  go_enter Tryz.func61, Tryz.ntmps61
  go_wp2
  go_quiet ((go_at_call 104; exact quiet_left (long_any _ _ _)))
  go_wp2_with (go_at_call 105; refine (ahead_any _ _ (by omega) (by omega)).mono ?_; rintro e w' ⟨rfl, rfl⟩)
  clear g1 g2 g3 g4
  go_loop [6, 7] (fun r k => ∃ j : Int, 1 ≤ j ∧ j ≤ m ∧ k = .int .i64 j ∧ r = .int .i64 (aheadD y + cum y j)) (fun _ k => (12 - intOf k).toNat)
  case atStart => exact ⟨1, by omega, by omega, rfl, by simp [cum]⟩
  case round =>
    obtain ⟨j, hj1, hj2, rfl, rfl⟩ := hrel
    have dj := dim_bd y j
    have cj := cum_bd y j hj1 (by omega)
    by_cases hj : j < m
    · have HC := hide (cum_succ y j hj1 (by omega))
      go_wp2_with (go_at_call 104; refine (long_any _ _ _).mono ?_; rintro e w' ⟨rfl, rfl⟩)
      go_round
      case rel => exact ⟨j + 1, by omega, by omega, rfl, by rw [HC.out]; go_num⟩
      case measure => simp [intOf]; omega
    · obtain rfl : m = j := by omega
      go_wp2
      go_ret2
      exact ⟨ret_two (by unfold tickN; omega) rfl, below_drewN ((Below.refl _ _).alloc (Nat.le_refl _) _) _⟩

def TickNo (w : World) (e : Ending) (w' : World) : Prop :=
  e = .returned (.tuple #[.int .i64 0, .int .i64 1]) ∧ Below w.heap.size w w'

/-- A day that there is, and a second of it. -/
def dayB (y m d s : Int) : Bool := decide (1970 ≤ y ∧ y ≤ 9999 ∧ 1 ≤ m ∧ m ≤ 12 ∧ 1 ≤ d ∧ d ≤ dim y m ∧ 0 ≤ s ∧ s < 86400)

set_option maxHeartbeats 1000000 in
theorem tick_no1 (y m d k s : Int) (w : World) (h : y < 1970 ∨ 9999 < y ∨ m < 1 ∨ 12 < m) :
    Calls Tryz.prog 61 #[.agg #[.int .i64 y, .int .i64 m, .int .i64 d, .int .i64 k], .int .i64 s] w (TickNo w) := by
  by_cases h1 : y < 1970
  · go_enter Tryz.func61, Tryz.ntmps61
    go_wp2
    go_ret2
    exact ⟨rfl, ((Below.refl _ _).alloc (Nat.le_refl _) _)⟩
  · by_cases h2 : 9999 < y
    · go_enter Tryz.func61, Tryz.ntmps61
      go_wp2
      go_ret2
      exact ⟨rfl, ((Below.refl _ _).alloc (Nat.le_refl _) _)⟩
    · by_cases h3 : m < 1
      · go_enter Tryz.func61, Tryz.ntmps61
        go_wp2
        go_ret2
        exact ⟨rfl, ((Below.refl _ _).alloc (Nat.le_refl _) _)⟩
      · have h4 : 12 < m := by omega
        go_enter Tryz.func61, Tryz.ntmps61
        go_wp2
        go_ret2
        exact ⟨rfl, ((Below.refl _ _).alloc (Nat.le_refl _) _)⟩

set_option maxHeartbeats 1000000 in
theorem tick_no2 (y m d k s : Int) (w : World) (hy1 : 1970 ≤ y) (hy2 : y ≤ 9999) (hm1 : 1 ≤ m) (hm2 : m ≤ 12) (h : d < 1 ∨ dim y m < d ∨ s < 0 ∨ 86400 ≤ s) :
    Calls Tryz.prog 61 #[.agg #[.int .i64 y, .int .i64 m, .int .i64 d, .int .i64 k], .int .i64 s] w (TickNo w) := by
  have db := dim_bd y m
  by_cases h1 : d < 1
  · have g1 : decide (d < 1) = true := by simp; omega
    go_enter Tryz.func61, Tryz.ntmps61
    go_wp2
    go_quiet ((go_at_call 104; exact quiet_left (long_any _ _ _)))
    go_wp2
    go_ret2
    exact ⟨rfl, below_drewN ((Below.refl _ _).alloc (Nat.le_refl _) _) _⟩
  · have g1 : decide (d < 1) = false := by simp; omega
    by_cases h2 : dim y m < d
    · have g2 : decide (dim y m < d) = true := by simp; omega
      go_enter Tryz.func61, Tryz.ntmps61
      go_wp2
      go_quiet ((go_at_call 104; exact quiet_left (long_any _ _ _)))
      go_wp2
      go_ret2
      exact ⟨rfl, below_drewN ((Below.refl _ _).alloc (Nat.le_refl _) _) _⟩
    · have g2 : decide (dim y m < d) = false := by simp; omega
      by_cases h3 : s < 0
      · have g3 : decide (s < 0) = true := by simp; omega
        go_enter Tryz.func61, Tryz.ntmps61
        go_wp2
        go_quiet ((go_at_call 104; exact quiet_left (long_any _ _ _)))
        go_wp2
        go_ret2
        exact ⟨rfl, below_drewN ((Below.refl _ _).alloc (Nat.le_refl _) _) _⟩
      · have g3 : decide (s < 0) = false := by simp; omega
        have g4 : decide (86400 ≤ s) = true := by simp; omega
        go_enter Tryz.func61, Tryz.ntmps61
        go_wp2
        go_quiet ((go_at_call 104; exact quiet_left (long_any _ _ _)))
        go_wp2
        go_ret2
        exact ⟨rfl, below_drewN ((Below.refl _ _).alloc (Nat.le_refl _) _) _⟩
end Go.Proofs.YtmelcndflllgmaaGreatDoor
namespace Go.Proofs.YtmelcndflllgmaaGreatDoor
open Go.RowKit DateM

def RightPost (b : Bool) (w : World) (e : Ending) (w' : World) : Prop := e = .returned (.bool b) ∧ Below w.heap.size w w'

set_option maxHeartbeats 1000000 in
theorem rright_no1 (y m d k : Int) (w : World) (h : y < 1970 ∨ 9999 < y ∨ m < 1 ∨ 12 < m) :
    Calls Tryz.prog 111 #[.agg #[.int .i64 y, .int .i64 m, .int .i64 d, .int .i64 k]] w (RightPost false w) := by
  by_cases h1 : y < 1970
  · go_enter Tryz.func111, Tryz.ntmps111
    go_wp2
    go_ret
    exact ⟨rfl, ((Below.refl _ _).alloc (Nat.le_refl _) _)⟩
  · by_cases h2 : 9999 < y
    · go_enter Tryz.func111, Tryz.ntmps111
      go_wp2
      go_ret
      exact ⟨rfl, ((Below.refl _ _).alloc (Nat.le_refl _) _)⟩
    · by_cases h3 : m < 1
      · go_enter Tryz.func111, Tryz.ntmps111
        go_wp2
        go_ret
        exact ⟨rfl, ((Below.refl _ _).alloc (Nat.le_refl _) _)⟩
      · have h4 : 12 < m := by omega
        go_enter Tryz.func111, Tryz.ntmps111
        go_wp2
        go_ret
        exact ⟨rfl, ((Below.refl _ _).alloc (Nat.le_refl _) _)⟩

set_option maxHeartbeats 1000000 in
theorem rright_any (y m d k : Int) (w : World) (hy1 : 1970 ≤ y) (hy2 : y ≤ 9999) (hm1 : 1 ≤ m) (hm2 : m ≤ 12) :
    Calls Tryz.prog 111 #[.agg #[.int .i64 y, .int .i64 m, .int .i64 d, .int .i64 k]] w (RightPost (decide (1 ≤ d ∧ d ≤ dim y m)) w) := by
  have db := dim_bd y m
  by_cases h1 : 1 ≤ d
  · have g1 : decide (1 ≤ d) = true := by simp; omega
    go_enter Tryz.func111, Tryz.ntmps111
    go_wp2
    go_quiet ((go_at_call 113; exact quiet_left (days_any _ _ _)))
    go_wp2
    go_ret
    exact ⟨ret_bool (by simp [h1]), below_drewN ((Below.refl _ _).alloc (Nat.le_refl _) _) _⟩
  · have g1 : decide (1 ≤ d) = false := by simp; omega
    go_enter Tryz.func111, Tryz.ntmps111
    go_wp2
    go_quiet ((go_at_call 113; exact quiet_left (days_any _ _ _)))
    go_wp2
    go_ret
    exact ⟨ret_bool (by simp; omega), below_drewN ((Below.refl _ _).alloc (Nat.le_refl _) _) _⟩

/-- the reference's 'Right', as a whole -/
theorem rright_all (y m d k : Int) (w : World) :
    Calls Tryz.prog 111 #[.agg #[.int .i64 y, .int .i64 m, .int .i64 d, .int .i64 k]] w (RightPost (dayB y m d 0) w) := by
  by_cases h : y < 1970 ∨ 9999 < y ∨ m < 1 ∨ 12 < m
  · have e : dayB y m d 0 = false := by unfold dayB; simp; omega
    rw [e]; exact rright_no1 y m d k w h
  · have e : dayB y m d 0 = decide (1 ≤ d ∧ d ≤ dim y m) := decide_eq_decide.2 (by omega)
    rw [e]; exact rright_any y m d k w (by omega) (by omega) (by omega) (by omega)

set_option maxHeartbeats 1000000 in
theorem rtick_no (y m d k s : Int) (w : World) (h : dayB y m d s = false) :
    Calls Tryz.prog 74 #[.agg #[.int .i64 y, .int .i64 m, .int .i64 d, .int .i64 k], .int .i64 s] w (TickNo w) := by
  by_cases h1 : dayB y m d 0 = true
  · by_cases h2 : s < 0
    · go_enter Tryz.func74, Tryz.ntmps74
      go_wp2_with (go_at_call 111; refine (rright_all _ _ _ _ _).mono ?_; rintro e w' ⟨rfl, hb⟩)
      go_ret2
      exact ⟨rfl, ((Below.refl _ _).alloc (Nat.le_refl _) _).trans (hb.mono (by simp))⟩
    · have h3 : 86399 < s := by
        unfold dayB at h h1; simp at h h1; omega
      go_enter Tryz.func74, Tryz.ntmps74
      go_wp2_with (go_at_call 111; refine (rright_all _ _ _ _ _).mono ?_; rintro e w' ⟨rfl, hb⟩)
      go_ret2
      exact ⟨rfl, ((Below.refl _ _).alloc (Nat.le_refl _) _).trans (hb.mono (by simp))⟩
  · have h1' : dayB y m d 0 = false := by simpa using h1
    clear h1
    go_enter Tryz.func74, Tryz.ntmps74
    go_wp2_with (go_at_call 111; refine (rright_all _ _ _ _ _).mono ?_; rintro e w' ⟨rfl, hb⟩)
    go_ret2
    exact ⟨rfl, ((Below.refl _ _).alloc (Nat.le_refl _) _).trans (hb.mono (by simp))⟩

set_option maxHeartbeats 1000000 in
theorem rtick_yes (y m d k s : Int) (w : World) (hy1 : 1970 ≤ y) (hy2 : y ≤ 9999) (hm1 : 1 ≤ m) (hm2 : m ≤ 12) (hd1 : 1 ≤ d) (hd2 : d ≤ dim y m) (hs1 : 0 ≤ s) (hs2 : s < 86400) :
    Calls Tryz.prog 74 #[.agg #[.int .i64 y, .int .i64 m, .int .i64 d, .int .i64 k], .int .i64 s] w (TickYes y m d s w) := by
  have hb := ahead_bd y hy1 (by omega)
  have db := dim_bd y m
  have cb := cum_bd y m hm1 hm2
  have h1 : dayB y m d 0 = true := by unfold dayB; simp; omega
  go_enter Tryz.func74, Tryz.ntmps74
  go_wp2_with (go_at_call 111; refine (rright_all _ _ _ _ _).mono ?_; rintro e w1 ⟨rfl, hb1⟩)
  obtain ⟨hc1, hf1⟩ := bcell hb1
  have hz1 : w.heap.size < w1.heap.size := by have := hb1.size; simp at this; omega
  have e0 := hc1 w.heap.size 0 (by simp)
  have e1 := hc1 w.heap.size 1 (by simp)
  have e2 := hc1 w.heap.size 2 (by simp)
  simp [go_sem] at e0 e1 e2
  clear hc1 hf1
  go_quiet ((go_at_call 112; exact quiet_left (before_any _ _ (by omega) (by omega))))
  go_wp2_with fail
  go_loop [6, 7] (fun r k => ∃ j : Int, 1 ≤ j ∧ j ≤ m ∧ k = .int .i64 j ∧ r = .int .i64 (aheadD y + d - 1 + cum y j)) (fun _ k => (12 - intOf k).toNat)
  case atStart => exact ⟨1, by omega, by omega, rfl, by simp [cum]⟩
  case round =>
    obtain ⟨j, hj1, hj2, rfl, rfl⟩ := hrel
    have dj := dim_bd y j
    have cj := cum_bd y j hj1 (by omega)
    by_cases hj : j < m
    · have HC := hide (cum_succ y j hj1 (by omega))
      go_wp2_with (go_at_call 113; refine (days_any _ _ _).mono ?_; rintro e w' ⟨rfl, rfl⟩)
      go_round
      case rel => exact ⟨j + 1, by omega, by omega, rfl, by rw [HC.out]; go_num⟩
      case measure => simp [intOf]; omega
    · obtain rfl : m = j := by omega
      go_wp2
      go_ret2
      exact ⟨ret_two (by unfold tickN; omega) rfl, below_drewN (((Below.refl _ _).alloc (Nat.le_refl _) _).trans (hb1.mono (by simp))) _⟩

set_option maxHeartbeats 1000000 in
theorem rof_no (t : Int) (w : World) (h : t < 0 ∨ 253402300799 < t) :
    Calls Tryz.prog 86 #[.int .i64 t] w (OfNone w) := by
  rcases h with h | h
  · go_enter Tryz.func86, Tryz.ntmps86
    go_wp2
    exact bodyPost_ret (v := .tuple #[.agg #[.int .i64 0, .int .i64 0, .int .i64 0, .int .i64 0], .int .i64 0]) (by simp [results, Tryz.results86, go_sem]) rfl ⟨rfl, (Below.refl _ _).alloc (Nat.le_refl _) _⟩
  · have h' : ¬ t < 0 := by omega
    go_enter Tryz.func86, Tryz.ntmps86
    go_wp2
    exact bodyPost_ret (v := .tuple #[.agg #[.int .i64 0, .int .i64 0, .int .i64 0, .int .i64 0], .int .i64 0]) (by simp [results, Tryz.results86, go_sem]) rfl ⟨rfl, (Below.refl _ _).alloc (Nat.le_refl _) _⟩

set_option maxHeartbeats 1000000 in
theorem rof_yes (t : Int) (w : World) (h1 : 0 ≤ t) (h2 : t ≤ 253402300799) :
    Calls Tryz.prog 86 #[.int .i64 t] w (OfPost t w) := by
  have g0 := ahead_guess (t / 86400) (by omega)
  have gm := ahead_max
  have g2 : t / 86400 < aheadD 10000 := by rw [gm]; omega
  clear gm
  go_enter Tryz.func86, Tryz.ntmps86
  go_wp2
  go_loop [5] (fun x => ∃ y : Int, 1970 ≤ y ∧ y ≤ 9999 ∧ aheadD y ≤ t / 86400 ∧ x = .int .i64 y) (fun x => (9999 - intOf x).toNat)
  case atStart => exact ⟨_, by omega, by omega, g0, by go_num⟩
  case round =>
    obtain ⟨y, hy1, hy2, hy3, rfl⟩ := hrel
    by_cases hd : aheadD (y + 1) ≤ t / 86400
    · have hlt : y < 9999 := by
        by_cases e : y = 9999
        · subst e; simp at hd; omega
        · omega
      go_wp2_with (go_at_call 112; refine (before_any _ _ (by omega) (by omega)).mono ?_; rintro e w' ⟨rfl, rfl⟩)
      go_round
      case rel => exact ⟨y + 1, by omega, by omega, hd, rfl⟩
      case measure => simp [intOf]; omega
    · have hb := ahead_bd y hy1 (by omega)
      have hs := ahead_succ y (by omega)
      have hl := lp_01 y
      have hz : t / 86400 < aheadD y + 365 + lp y := by omega
      clear hs g0
      go_wp2_with (go_at_call 112; refine (before_any _ _ (by omega) (by omega)).mono ?_; rintro e w' ⟨rfl, rfl⟩)
      go_loop [6, 7] (fun r k => ∃ m : Int, 1 ≤ m ∧ m ≤ 12 ∧ k = .int .i64 m ∧ 0 ≤ t / 86400 - aheadD y - cum y m ∧ r = .int .i64 (t / 86400 - aheadD y - cum y m)) (fun _ k => (12 - intOf k).toNat)
      case atStart => exact ⟨1, by omega, by omega, rfl, by simp [cum]; omega, by simp [cum]⟩
      case round =>
        obtain ⟨m, hm1, hm2, rfl, hr, rfl⟩ := hrel
        have cb := cum_bd y m hm1 hm2
        have db := dim_bd y m
        have cs := cum_succ y m hm1 hm2
        by_cases hd2 : dim y m ≤ t / 86400 - aheadD y - cum y m
        · have hm : m < 12 := by
            by_cases e : m = 12
            · subst e; have h13 := cum_13 y; simp at cs; omega
            · omega
          have HC := hide cs
          clear cs
          go_wp2_with (go_at_call 113; refine (days_any _ _ _).mono ?_; rintro e w' ⟨rfl, rfl⟩)
          go_round
          case rel => exact ⟨m + 1, by omega, by omega, rfl, by rw [HC.out]; omega, by rw [HC.out]; go_num⟩
          case measure => simp [intOf]; omega
        · clear cs
          go_wp2_with (go_at_call 113; refine (days_any _ _ _).mono ?_; rintro e w' ⟨rfl, rfl⟩)
          refine bodyPost_ret (v := .tuple #[.agg #[.int .i64 y, .int .i64 m, .int .i64 (t / 86400 - aheadD y - cum y m + 1), .int .i64 ((t / 86400 + 4) % 7)], .int .i64 (t % 86400)]) (by simp [results, Tryz.results86, go_sem]) rfl
            ⟨y, m, _, _, _, ⟨⟨hy1, hy2, hm1, hm2, ?_, ?_, ?_⟩, rfl, rfl⟩, rfl, ?_⟩
          · omega
          · omega
          · omega
          · exact (Below.refl _ _).alloc (Nat.le_refl _) _
end Go.Proofs.YtmelcndflllgmaaGreatDoor
