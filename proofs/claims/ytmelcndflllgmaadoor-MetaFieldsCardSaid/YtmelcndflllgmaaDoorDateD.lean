/-
  The reference's calendar: the day of a tick, the tick of a day.
-/
import Derived.Test.YtmelcndflllgmaaDoorDateC
namespace Go.Proofs.YtmelcndflllgmaaDoor
open Go.RowKit DateM

def RightPost (b : Bool) (w : World) (e : Ending) (w' : World) : Prop := e = .returned (.bool b) ∧ Below w.heap.size w w'

set_option maxHeartbeats 1000000 in
theorem rof_no (t : Int) (w : World) (h : t < 0 ∨ 253402300799 < t) :
    Calls Tryd.prog 55 #[.int .i64 t] w (OfNone w) := by
  rcases h with h | h
  · go_enter Tryd.func55, Tryd.ntmps55
    go_wp2
    exact bodyPost_ret (v := .tuple #[.agg #[.int .i64 0, .int .i64 0, .int .i64 0, .int .i64 0], .int .i64 0]) (by simp [results, Tryd.results55, go_sem]) rfl ⟨rfl, (Below.refl _ _).alloc (Nat.le_refl _) _⟩
  · have h' : ¬ t < 0 := by omega
    go_enter Tryd.func55, Tryd.ntmps55
    go_wp2
    exact bodyPost_ret (v := .tuple #[.agg #[.int .i64 0, .int .i64 0, .int .i64 0, .int .i64 0], .int .i64 0]) (by simp [results, Tryd.results55, go_sem]) rfl ⟨rfl, (Below.refl _ _).alloc (Nat.le_refl _) _⟩

set_option maxHeartbeats 1000000 in
theorem rof_yes (t : Int) (w : World) (h1 : 0 ≤ t) (h2 : t ≤ 253402300799) :
    Calls Tryd.prog 55 #[.int .i64 t] w (OfPost t w) := by
  have g0 := ahead_guess (t / 86400) (by omega)
  have gm := ahead_max
  have g2 : t / 86400 < aheadD 10000 := by rw [gm]; omega
  clear gm
  go_enter Tryd.func55, Tryd.ntmps55
  go_wp2
  go_loop [5] (fun x => ∃ y : Int, 1970 ≤ y ∧ y ≤ 9999 ∧ aheadD y ≤ t / 86400 ∧ x = .int .i64 y) (fun x => (9999 - intOf x).toNat)
  case atStart => exact ⟨_, by omega, by omega, g0, by go_num⟩
  case round =>
    obtain ⟨y, hy1, hy2, hy3, rfl⟩ := hrel
    by_cases hd : aheadD (y + 1) ≤ t / 86400
    · have hlt : y < 9999 := by
        by_cases e : y = 9999
        · subst e; simp at hd; omega
        · omega
      go_wp2_with (go_at_call 75; refine (before_any _ _ (by omega) (by omega)).mono ?_; rintro e w' ⟨rfl, rfl⟩)
      go_round
      case rel => exact ⟨y + 1, by omega, by omega, hd, rfl⟩
      case measure => simp [intOf]; omega
    · have hb := ahead_bd y hy1 (by omega)
      have hs := ahead_succ y (by omega)
      have hl := lp_01 y
      have hz : t / 86400 < aheadD y + 365 + lp y := by omega
      clear hs g0
      go_wp2_with (go_at_call 75; refine (before_any _ _ (by omega) (by omega)).mono ?_; rintro e w' ⟨rfl, rfl⟩)
      go_loop [6, 7] (fun r k => ∃ m : Int, 1 ≤ m ∧ m ≤ 12 ∧ k = .int .i64 m ∧ 0 ≤ t / 86400 - aheadD y - cum y m ∧ r = .int .i64 (t / 86400 - aheadD y - cum y m)) (fun _ k => (12 - intOf k).toNat)
      case atStart => exact ⟨1, by omega, by omega, rfl, by simp [cum]; omega, by simp [cum]⟩
      case round =>
        obtain ⟨m, hm1, hm2, rfl, hr, rfl⟩ := hrel
        have cb := cum_bd y m hm1 hm2
        have db := dim_bd y m
        have cs := cum_succ y m hm1 hm2
        by_cases hd2 : dim y m ≤ t / 86400 - aheadD y - cum y m
        · have hm : m < 12 := by
            by_cases e : m = 12
            · subst e; have h13 := cum_13 y; simp at cs; omega
            · omega
          have HC := hide cs
          clear cs
          go_wp2_with (go_at_call 76; refine (days_any _ _ _).mono ?_; rintro e w' ⟨rfl, rfl⟩)
          go_round
          case rel => exact ⟨m + 1, by omega, by omega, rfl, by rw [HC.out]; omega, by rw [HC.out]; go_num⟩
          case measure => simp [intOf]; omega
        · clear cs
          go_wp2_with (go_at_call 76; refine (days_any _ _ _).mono ?_; rintro e w' ⟨rfl, rfl⟩)
          refine bodyPost_ret (v := .tuple #[.agg #[.int .i64 y, .int .i64 m, .int .i64 (t / 86400 - aheadD y - cum y m + 1), .int .i64 ((t / 86400 + 4) % 7)], .int .i64 (t % 86400)]) (by simp [results, Tryd.results55, go_sem]) rfl
            ⟨y, m, _, _, _, ⟨⟨hy1, hy2, hm1, hm2, ?_, ?_, ?_⟩, rfl, rfl⟩, rfl, ?_⟩
          · omega
          · omega
          · omega
          · exact (Below.refl _ _).alloc (Nat.le_refl _) _
end Go.Proofs.YtmelcndflllgmaaDoor
