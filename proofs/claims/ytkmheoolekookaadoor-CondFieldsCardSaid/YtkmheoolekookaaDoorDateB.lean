/-
  The day of a tick: the program's and the reference's.
-/
import Derived.Test.YtkmheoolekookaaDoorDateA
namespace Go.Proofs.YtkmheoolekookaaDoor
open Go.RowKit DateM

/-- A day and its second, as they are told of a tick. -/
def Told (t : Int) (y m d k s : Int) : Prop := IsDay (t / 86400) y m d ∧ k = (t / 86400 + 4) % 7 ∧ s = t % 86400

def OfPost (t : Int) (w : World) (e : Ending) (w' : World) : Prop :=
  ∃ y m d k s : Int, Told t y m d k s ∧ e = .returned (.tuple #[.agg #[.int .i64 y, .int .i64 m, .int .i64 d, .int .i64 k], .int .i64 s]) ∧ Below w.heap.size w w'

def OfNone (w : World) (e : Ending) (w' : World) : Prop :=
  e = .returned (.tuple #[.agg #[.int .i64 0, .int .i64 0, .int .i64 0, .int .i64 0], .int .i64 0]) ∧ Below w.heap.size w w'

set_option maxHeartbeats 400000 in
theorem of_no (t : Int) (w : World) (h : t < 0 ∨ 253402300799 < t) :
    Calls Tryd.prog 58 #[.int .i64 t] w (OfNone w) := by
  rcases h with h | h
  · go_enter Tryd.func58, Tryd.ntmps58
    go_wp2
    exact bodyPost_ret (v := .tuple #[.agg #[.int .i64 0, .int .i64 0, .int .i64 0, .int .i64 0], .int .i64 0]) (by simp [results, Tryd.results58, go_sem]) rfl ⟨rfl, (Below.refl _ _).alloc (Nat.le_refl _) _⟩
  · have h' : ¬ t < 0 := by omega
    go_enter Tryd.func58, Tryd.ntmps58
    go_wp2
    exact bodyPost_ret (v := .tuple #[.agg #[.int .i64 0, .int .i64 0, .int .i64 0, .int .i64 0], .int .i64 0]) (by simp [results, Tryd.results58, go_sem]) rfl ⟨rfl, (Below.refl _ _).alloc (Nat.le_refl _) _⟩

set_option maxHeartbeats 1000000 in
theorem of_yes (t : Int) (w : World) (h1 : 0 ≤ t) (h2 : t ≤ 253402300799) :
    Calls Tryd.prog 58 #[.int .i64 t] w (OfPost t w) := by
  have g0 := ahead_guess (t / 86400) (by omega)
  go_enter Tryd.func58, Tryd.ntmps58
  go_wp2
  go_loop [5] (fun x => ∃ y : Int, 1970 ≤ y ∧ y ≤ 9999 ∧ aheadD y ≤ t / 86400 ∧ x = .int .i64 y) (fun x => (9999 - intOf x).toNat)
  case atStart => exact ⟨_, by omega, by omega, g0, by go_num⟩
  case round =>
    obtain ⟨y, hy1, hy2, hy3, rfl⟩ := hrel
    by_cases hc : y < 9999 ∧ aheadD (y + 1) ≤ t / 86400
    · obtain ⟨hlt, hd⟩ := hc
      go_wp2_with (go_at_call 82; refine (ahead_any _ _ (by omega) (by omega)).mono ?_; rintro e w' ⟨rfl, rfl⟩)
      go_round
      case rel => exact ⟨y + 1, by omega, by omega, hd, rfl⟩
      case measure => simp [intOf]; omega
    · have hz : t / 86400 < aheadD (y + 1) := by
        by_cases e : y = 9999
        · have := ahead_max; rw [e]; show _ < aheadD 10000; omega
        · omega
      have hb := ahead_bd y hy1 (by omega)
      have hs := ahead_succ y (by omega)
      have hl := lp_01 y
      clear hc g0
      by_cases hlt : y < 9999
      all_goals
        go_wp2_with (go_at_call 82; refine (ahead_any _ _ (by omega) (by omega)).mono ?_; rintro e w' ⟨rfl, rfl⟩)
        go_loop [6, 7] (fun r k => ∃ m : Int, 1 ≤ m ∧ m ≤ 12 ∧ k = .int .i64 m ∧ 0 ≤ t / 86400 - aheadD y - cum y m ∧ r = .int .i64 (t / 86400 - aheadD y - cum y m)) (fun _ k => (12 - intOf k).toNat)
        case atStart => exact ⟨1, by omega, by omega, rfl, by simp [cum]; omega, by simp [cum]⟩
        case round =>
          obtain ⟨m, hm1, hm2, rfl, hr, rfl⟩ := hrel
          have cb := cum_bd y m hm1 hm2
          have db := dim_bd y m
          have cs := cum_succ y m hm1 hm2
          by_cases hd : dim y m ≤ t / 86400 - aheadD y - cum y m
          · have hm : m < 12 := by
              by_cases e : m = 12
              · subst e; have h13 := cum_13 y; simp at cs; omega
              · omega
            have HC : Hid (cum y (m + 1) = cum y m + dim y m) := cs
            clear cs
            go_wp2_with (go_at_call 83; refine (long_any _ _ _).mono ?_; rintro e w' ⟨rfl, rfl⟩)
            go_round
            case rel => exact ⟨m + 1, by omega, by omega, rfl, by rw [HC.out]; omega, by rw [HC.out]; go_num⟩
            case measure => simp [intOf]; omega
          · clear cs
            go_wp2_with (go_at_call 83; refine (long_any _ _ _).mono ?_; rintro e w' ⟨rfl, rfl⟩)
            refine bodyPost_ret (v := .tuple #[.agg #[.int .i64 y, .int .i64 m, .int .i64 (t / 86400 - aheadD y - cum y m + 1), .int .i64 ((t / 86400 + 4) % 7)], .int .i64 (t % 86400)]) (by simp [results, Tryd.results58, go_sem]) rfl
              ⟨y, m, _, _, _, ⟨⟨hy1, hy2, hm1, hm2, ?_, ?_, ?_⟩, rfl, rfl⟩, rfl, ?_⟩
            · omega
            · omega
            · omega
            · exact (Below.refl _ _).alloc (Nat.le_refl _) _
end Go.Proofs.YtkmheoolekookaaDoor
