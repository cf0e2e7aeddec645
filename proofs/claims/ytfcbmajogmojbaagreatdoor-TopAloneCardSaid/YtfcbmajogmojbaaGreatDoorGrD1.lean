/-
  Merged: DateM, DateA, DateB, DateC, DateD.
-/
import Derived.IntWalk
import Derived.Test.YtfcbmajogmojbaaGreatDoorRows
import Derived.Test.YtfcbmajogmojbaaGreatDoorGrU
namespace Go.Proofs.YtfcbmajogmojbaaGreatDoor.DateM

def leapB (y : Int) : Bool := (y.tmod 4 == 0 && y.tmod 100 != 0) || y.tmod 400 == 0
def dim (y m : Int) : Int := if m = 4 ∨ m = 6 ∨ m = 9 ∨ m = 11 then 30 else if m = 2 then (if leapB y = true then 29 else 28) else 31
def aheadD (y : Int) : Int := 365 * (y - 1970) + ((y - 1) / 4 - (y - 1) / 100 + (y - 1) / 400) - 477
def lp (y : Int) : Int := if leapB y = true then 1 else 0
/-- days of a year ahead of its month m -/
def cum (y m : Int) : Int :=
  if m ≤ 1 then 0 else if m = 2 then 31 else
  (if m = 3 then 59 else if m = 4 then 90 else if m = 5 then 120 else if m = 6 then 151 else if m = 7 then 181 else if m = 8 then 212
   else if m = 9 then 243 else if m = 10 then 273 else if m = 11 then 304 else if m = 12 then 334 else 365) + lp y

theorem leapB_pos (y : Int) (h : 0 ≤ y) : leapB y = ((y % 4 == 0 && y % 100 != 0) || y % 400 == 0) := by
  unfold leapB
  rw [Int.tmod_eq_emod_of_nonneg h, Int.tmod_eq_emod_of_nonneg h, Int.tmod_eq_emod_of_nonneg h]
theorem lp_01 (y : Int) : 0 ≤ lp y ∧ lp y ≤ 1 := by unfold lp; split <;> omega
theorem lp_eq (y : Int) (h : 0 ≤ y) : lp y = y / 4 - y / 100 + y / 400 - ((y - 1) / 4 - (y - 1) / 100 + (y - 1) / 400) := by
  unfold lp
  rw [leapB_pos y h]
  by_cases h4 : y % 4 = 0 <;> by_cases h100 : y % 100 = 0 <;> by_cases h400 : y % 400 = 0 <;> simp [h4, h100, h400] <;> omega
theorem ahead_succ (y : Int) (h : 0 ≤ y) : aheadD (y + 1) = aheadD y + 365 + lp y := by
  have := lp_eq y h
  unfold aheadD
  have e : y + 1 - 1 = y := by omega
  rw [e]
  omega
theorem ahead_mono (a b : Int) (h : a ≤ b) : aheadD a ≤ aheadD b := by unfold aheadD; omega
theorem ahead_lt (a b : Int) (h : a < b) : aheadD a + 365 ≤ aheadD b := by unfold aheadD; omega
theorem ahead_guess (n : Int) (h : 0 ≤ n) : aheadD (1970 + n / 366) ≤ n := by unfold aheadD; omega
theorem ahead_max : aheadD 10000 = 2932897 := by unfold aheadD; decide
theorem ahead_bd (y : Int) (h : 1970 ≤ y) (h1 : y ≤ 10000) : 0 ≤ aheadD y ∧ aheadD y ≤ 2932897 := by unfold aheadD; omega
theorem dim_bd (y m : Int) : 28 ≤ dim y m ∧ dim y m ≤ 31 := by
  unfold dim; split
  · omega
  · split
    · split <;> omega
    · omega
theorem dim_cases (y m : Int) : dim y m = if m = 2 then 28 + lp y else if m = 4 ∨ m = 6 ∨ m = 9 ∨ m = 11 then 30 else 31 := by
  unfold dim lp
  by_cases h2 : m = 2
  · subst h2; simp; split <;> omega
  · simp [h2]
theorem cum_succ (y m : Int) (h1 : 1 ≤ m) (h2 : m ≤ 12) : cum y (m + 1) = cum y m + dim y m := by
  rw [dim_cases]
  obtain h | h | h | h | h | h | h | h | h | h | h | h : m = 1 ∨ m = 2 ∨ m = 3 ∨ m = 4 ∨ m = 5 ∨ m = 6 ∨ m = 7 ∨ m = 8 ∨ m = 9 ∨ m = 10 ∨ m = 11 ∨ m = 12 := by omega
  all_goals (subst h; simp [cum] <;> omega)
theorem cum_13 (y : Int) : cum y 13 = 365 + lp y := by simp [cum]
theorem cum_bd (y m : Int) (h1 : 1 ≤ m) (h2 : m ≤ 12) : 0 ≤ cum y m ∧ cum y m ≤ 335 := by
  have := lp_01 y
  obtain h | h | h | h | h | h | h | h | h | h | h | h : m = 1 ∨ m = 2 ∨ m = 3 ∨ m = 4 ∨ m = 5 ∨ m = 6 ∨ m = 7 ∨ m = 8 ∨ m = 9 ∨ m = 10 ∨ m = 11 ∨ m = 12 := by omega
  all_goals (subst h; simp [cum] <;> omega)
theorem cum_mono1 (y a b : Int) (h1 : 1 ≤ a) (h : a < b) (h2 : b ≤ 12) : cum y a + dim y a ≤ cum y b := by
  rw [← cum_succ y a h1 (by omega)]
  have hl := lp_01 y
  obtain h | h | h | h | h | h | h | h | h | h | h : a = 1 ∨ a = 2 ∨ a = 3 ∨ a = 4 ∨ a = 5 ∨ a = 6 ∨ a = 7 ∨ a = 8 ∨ a = 9 ∨ a = 10 ∨ a = 11 := by omega
  all_goals
    subst h
    obtain g | g | g | g | g | g | g | g | g | g | g : b = 2 ∨ b = 3 ∨ b = 4 ∨ b = 5 ∨ b = 6 ∨ b = 7 ∨ b = 8 ∨ b = 9 ∨ b = 10 ∨ b = 11 ∨ b = 12 := by omega
    all_goals (subst g; first | omega | (simp [cum] <;> omega))

/-- Day number n (from 1970 on) is the d-th of month m of year y. -/
def IsDay (n y m d : Int) : Prop := 1970 ≤ y ∧ y ≤ 9999 ∧ 1 ≤ m ∧ m ≤ 12 ∧ 1 ≤ d ∧ d ≤ dim y m ∧ aheadD y + cum y m + (d - 1) = n

theorem IsDay.uniq {n y m d y' m' d' : Int} (h : IsDay n y m d) (h' : IsDay n y' m' d') : y = y' ∧ m = m' ∧ d = d' := by
  obtain ⟨a1, a2, a3, a4, a5, a6, a7⟩ := h
  obtain ⟨b1, b2, b3, b4, b5, b6, b7⟩ := h'
  have ca := cum_bd y m a3 a4
  have cb := cum_bd y' m' b3 b4
  have sa : cum y m + dim y m ≤ 365 + lp y := by
    by_cases e : m = 12
    · have := cum_succ y 12 (by omega) (by omega); have c := cum_13 y; subst e; simp at this; omega
    · have := cum_mono1 y m 12 a3 (by omega) (by omega)
      have := cum_succ y 12 (by omega) (by omega); have c := cum_13 y; have := dim_bd y 12; simp at *; omega
  have sb : cum y' m' + dim y' m' ≤ 365 + lp y' := by
    by_cases e : m' = 12
    · have := cum_succ y' 12 (by omega) (by omega); have c := cum_13 y'; subst e; simp at this; omega
    · have := cum_mono1 y' m' 12 b3 (by omega) (by omega)
      have := cum_succ y' 12 (by omega) (by omega); have c := cum_13 y'; have := dim_bd y' 12; simp at *; omega
  have ey : y = y' := by
    rcases Int.lt_trichotomy y y' with h | h | h
    · have := ahead_mono (y + 1) y' (by omega); have := ahead_succ y (by omega); omega
    · exact h
    · have := ahead_mono (y' + 1) y (by omega); have := ahead_succ y' (by omega); omega
  subst ey
  have em : m = m' := by
    rcases Int.lt_trichotomy m m' with h | h | h
    · have := cum_mono1 y m m' a3 h b4; omega
    · exact h
    · have := cum_mono1 y m' m b3 h a4; omega
  subst em
  exact ⟨rfl, rfl, by omega⟩

end Go.Proofs.YtfcbmajogmojbaaGreatDoor.DateM
namespace Go.Proofs.YtfcbmajogmojbaaGreatDoor
open Go.RowKit DateM


set_option maxHeartbeats 400000 in
theorem leap_any (y : Int) (w : World) :
    Calls Tryz.prog 127 #[.int .i64 y] w fun e w' => e = .returned (.bool (leapB y)) ∧ w = w' := by
  go_enter Tryz.func127, Tryz.ntmps127
  go_wp2
  all_goals go_ret
  all_goals exact ⟨ret_bool (by simp [leapB, *]), rfl⟩

set_option maxHeartbeats 400000 in
theorem rleap_any (y : Int) (w : World) :
    Calls Tryz.prog 147 #[.int .i64 y] w fun e w' => e = .returned (.bool (leapB y)) ∧ w = w' := by
  go_enter Tryz.func147, Tryz.ntmps147
  go_wp2
  all_goals go_ret
  all_goals exact ⟨ret_bool (by simp [leapB, *]), rfl⟩

set_option maxHeartbeats 400000 in
theorem leaps_any (y : Int) (w : World) (h0 : 0 ≤ y) (h1 : y ≤ 10000) :
    Calls Tryz.prog 126 #[.int .i64 y] w fun e w' => e = .returned (.int .i64 (y / 4 - y / 100 + y / 400)) ∧ w = w' := by
  go_enter Tryz.func126, Tryz.ntmps126
  go_wp2
  go_ret
  exact ⟨rfl, rfl⟩

set_option maxHeartbeats 400000 in
theorem ahead_any (y : Int) (w : World) (h0 : 1970 ≤ y) (h1 : y ≤ 10000) :
    Calls Tryz.prog 103 #[.int .i64 y] w fun e w' => e = .returned (.int .i64 (aheadD y)) ∧ w = w' := by
  go_enter Tryz.func103, Tryz.ntmps103
  go_wp2_with (go_at_call 126; refine (leaps_any _ _ (by omega) (by omega)).mono ?_; rintro e w' ⟨rfl, rfl⟩)
  go_ret
  exact ⟨ret_int (by unfold aheadD; omega), rfl⟩

set_option maxHeartbeats 400000 in
theorem before_any (y : Int) (w : World) (h0 : 1970 ≤ y) (h1 : y ≤ 10000) :
    Calls Tryz.prog 124 #[.int .i64 y] w fun e w' => e = .returned (.int .i64 (aheadD y)) ∧ w = w' := by
  go_enter Tryz.func124, Tryz.ntmps124
  go_wp2
  go_ret
  exact ⟨ret_int (by unfold aheadD; omega), rfl⟩

set_option maxHeartbeats 400000 in
theorem long_any (y m : Int) (w : World) :
    Calls Tryz.prog 104 #[.int .i64 y, .int .i64 m] w fun e w' => e = .returned (.int .i64 (dim y m)) ∧ w = w' := by
  go_enter Tryz.func104, Tryz.ntmps104
  go_wp2_with (go_at_call 127; refine (leap_any _ _).mono ?_; rintro e w' ⟨rfl, rfl⟩)
  all_goals go_ret
  all_goals exact ⟨ret_int (by simp_all [dim]), rfl⟩

set_option maxHeartbeats 400000 in
theorem days_any (y m : Int) (w : World) :
    Calls Tryz.prog 125 #[.int .i64 y, .int .i64 m] w fun e w' => e = .returned (.int .i64 (dim y m)) ∧ w = w' := by
  go_enter Tryz.func125, Tryz.ntmps125
  go_wp2_with (go_at_call 147; refine (rleap_any _ _).mono ?_; rintro e w' ⟨rfl, rfl⟩)
  all_goals go_ret
  all_goals exact ⟨ret_int (by simp_all [dim]), rfl⟩
end Go.Proofs.YtfcbmajogmojbaaGreatDoor
namespace Go.Proofs.YtfcbmajogmojbaaGreatDoor
open Go.RowKit DateM

/-- A day and its second, as they are told of a tick. -/
def Told (t : Int) (y m d k s : Int) : Prop := IsDay (t / 86400) y m d ∧ k = (t / 86400 + 4) % 7 ∧ s = t % 86400

def OfPost (t : Int) (w : World) (e : Ending) (w' : World) : Prop :=
  ∃ y m d k s : Int, Told t y m d k s ∧ e = .returned (.tuple #[.agg #[.int .i64 y, .int .i64 m, .int .i64 d, .int .i64 k], .int .i64 s]) ∧ Below w.heap.size w w'

def OfNone (w : World) (e : Ending) (w' : World) : Prop :=
  e = .returned (.tuple #[.agg #[.int .i64 0, .int .i64 0, .int .i64 0, .int .i64 0], .int .i64 0]) ∧ Below w.heap.size w w'

set_option maxHeartbeats 400000 in
theorem of_no (t : Int) (w : World) (h : t < 0 ∨ 253402300799 < t) :
    Calls Tryz.prog 71 #[.int .i64 t] w (OfNone w) := by
  rcases h with h | h
  · go_enter Tryz.func71, Tryz.ntmps71
    go_wp2
    exact bodyPost_ret (v := .tuple #[.agg #[.int .i64 0, .int .i64 0, .int .i64 0, .int .i64 0], .int .i64 0]) (by simp [results, Tryz.results71, go_sem]) rfl ⟨rfl, (Below.refl _ _).alloc (Nat.le_refl _) _⟩
  · have h' : ¬ t < 0 := by omega
    go_enter Tryz.func71, Tryz.ntmps71
    go_wp2
    exact bodyPost_ret (v := .tuple #[.agg #[.int .i64 0, .int .i64 0, .int .i64 0, .int .i64 0], .int .i64 0]) (by simp [results, Tryz.results71, go_sem]) rfl ⟨rfl, (Below.refl _ _).alloc (Nat.le_refl _) _⟩

set_option maxHeartbeats 1000000 in
theorem of_yes (t : Int) (w : World) (h1 : 0 ≤ t) (h2 : t ≤ 253402300799) :
    Calls Tryz.prog 71 #[.int .i64 t] w (OfPost t w) := by
  have g0 := ahead_guess (t / 86400) (by omega)
  go_enter Tryz.func71, Tryz.ntmps71
  go_wp2
  go_loop [5] (fun x => ∃ y : Int, 1970 ≤ y ∧ y ≤ 9999 ∧ aheadD y ≤ t / 86400 ∧ x = .int .i64 y) (fun x => (9999 - intOf x).toNat)
  case atStart => exact ⟨_, by omega, by omega, g0, by go_num⟩
  case round =>
    obtain ⟨y, hy1, hy2, hy3, rfl⟩ := hrel
    by_cases hc : y < 9999 ∧ aheadD (y + 1) ≤ t / 86400
    · obtain ⟨hlt, hd⟩ := hc
      go_wp2_with (go_at_call 103; refine (ahead_any _ _ (by omega) (by omega)).mono ?_; rintro e w' ⟨rfl, rfl⟩)
      go_round
      case rel => exact ⟨y + 1, by omega, by omega, hd, rfl⟩
      case measure => simp [intOf]; omega
    · have hz : t / 86400 < aheadD (y + 1) := by
        by_cases e : y = 9999
        · have := ahead_max; rw [e]; show _ < aheadD 10000; omega
        · omega
      have hb := ahead_bd y hy1 (by omega)
      have hs := ahead_succ y (by omega)
      have hl := lp_01 y
      clear hc g0
      by_cases hlt : y < 9999
      all_goals
        go_wp2_with (go_at_call 103; refine (ahead_any _ _ (by omega) (by omega)).mono ?_; rintro e w' ⟨rfl, rfl⟩)
        go_loop [6, 7] (fun r k => ∃ m : Int, 1 ≤ m ∧ m ≤ 12 ∧ k = .int .i64 m ∧ 0 ≤ t / 86400 - aheadD y - cum y m ∧ r = .int .i64 (t / 86400 - aheadD y - cum y m)) (fun _ k => (12 - intOf k).toNat)
        case atStart => exact ⟨1, by omega, by omega, rfl, by simp [cum]; omega, by simp [cum]⟩
        case round =>
          obtain ⟨m, hm1, hm2, rfl, hr, rfl⟩ := hrel
          have cb := cum_bd y m hm1 hm2
          have db := dim_bd y m
          have cs := cum_succ y m hm1 hm2
          by_cases hd : dim y m ≤ t / 86400 - aheadD y - cum y m
          · have hm : m < 12 := by
              by_cases e : m = 12
              · subst e; have h13 := cum_13 y; simp at cs; omega
              · omega
            have HC : Hid (cum y (m + 1) = cum y m + dim y m) := cs
            clear cs
            go_wp2_with (go_at_call 104; refine (long_any _ _ _).mono ?_; rintro e w' ⟨rfl, rfl⟩)
            go_round
            case rel => exact ⟨m + 1, by omega, by omega, rfl, by rw [HC.out]; omega, by rw [HC.out]; go_num⟩
            case measure => simp [intOf]; omega
          · clear cs
            go_wp2_with (go_at_call 104; refine (long_any _ _ _).mono ?_; rintro e w' ⟨rfl, rfl⟩)
            refine bodyPost_ret (v := .tuple #[.agg #[.int .i64 y, .int .i64 m, .int .i64 (t / 86400 - aheadD y - cum y m + 1), .int .i64 ((t / 86400 + 4) % 7)], .int .i64 (t % 86400)]) (by simp [results, Tryz.results71, go_sem]) rfl
              ⟨y, m, _, _, _, ⟨⟨hy1, hy2, hm1, hm2, ?_, ?_, ?_⟩, rfl, rfl⟩, rfl, ?_⟩
            · omega
            · omega
            · omega
            · exact (Below.refl _ _).alloc (Nat.le_refl _) _
end Go.Proofs.YtfcbmajogmojbaaGreatDoor
namespace Go.Proofs.YtfcbmajogmojbaaGreatDoor
open Go.RowKit DateM

def tickN (y m d s : Int) : Int := (aheadD y + cum y m + (d - 1)) * 86400 + s
def TickYes (y m d s : Int) (w : World) (e : Ending) (w' : World) : Prop :=
  e = .returned (.tuple #[.int .i64 (tickN y m d s), .int .i64 0]) ∧ Below w.heap.size w w'

def TickNo (w : World) (e : Ending) (w' : World) : Prop :=
  e = .returned (.tuple #[.int .i64 0, .int .i64 1]) ∧ Below w.heap.size w w'

/-- A day that there is, and a second of it. -/
def dayB (y m d s : Int) : Bool := decide (1970 ≤ y ∧ y ≤ 9999 ∧ 1 ≤ m ∧ m ≤ 12 ∧ 1 ≤ d ∧ d ≤ dim y m ∧ 0 ≤ s ∧ s < 86400)

end Go.Proofs.YtfcbmajogmojbaaGreatDoor
namespace Go.Proofs.YtfcbmajogmojbaaGreatDoor
open Go.RowKit DateM

def RightPost (b : Bool) (w : World) (e : Ending) (w' : World) : Prop := e = .returned (.bool b) ∧ Below w.heap.size w w'

set_option maxHeartbeats 1000000 in
theorem rof_no (t : Int) (w : World) (h : t < 0 ∨ 253402300799 < t) :
    Calls Tryz.prog 98 #[.int .i64 t] w (OfNone w) := by
  rcases h with h | h
  · go_enter Tryz.func98, Tryz.ntmps98
    go_wp2
    exact bodyPost_ret (v := .tuple #[.agg #[.int .i64 0, .int .i64 0, .int .i64 0, .int .i64 0], .int .i64 0]) (by simp [results, Tryz.results98, go_sem]) rfl ⟨rfl, (Below.refl _ _).alloc (Nat.le_refl _) _⟩
  · have h' : ¬ t < 0 := by omega
    go_enter Tryz.func98, Tryz.ntmps98
    go_wp2
    exact bodyPost_ret (v := .tuple #[.agg #[.int .i64 0, .int .i64 0, .int .i64 0, .int .i64 0], .int .i64 0]) (by simp [results, Tryz.results98, go_sem]) rfl ⟨rfl, (Below.refl _ _).alloc (Nat.le_refl _) _⟩

set_option maxHeartbeats 1000000 in
theorem rof_yes (t : Int) (w : World) (h1 : 0 ≤ t) (h2 : t ≤ 253402300799) :
    Calls Tryz.prog 98 #[.int .i64 t] w (OfPost t w) := by
  have g0 := ahead_guess (t / 86400) (by omega)
  have gm := ahead_max
  have g2 : t / 86400 < aheadD 10000 := by rw [gm]; omega
  clear gm
  go_enter Tryz.func98, Tryz.ntmps98
  go_wp2
  go_loop [5] (fun x => ∃ y : Int, 1970 ≤ y ∧ y ≤ 9999 ∧ aheadD y ≤ t / 86400 ∧ x = .int .i64 y) (fun x => (9999 - intOf x).toNat)
  case atStart => exact ⟨_, by omega, by omega, g0, by go_num⟩
  case round =>
    obtain ⟨y, hy1, hy2, hy3, rfl⟩ := hrel
    by_cases hd : aheadD (y + 1) ≤ t / 86400
    · have hlt : y < 9999 := by
        by_cases e : y = 9999
        · subst e; simp at hd; omega
        · omega
      go_wp2_with (go_at_call 124; refine (before_any _ _ (by omega) (by omega)).mono ?_; rintro e w' ⟨rfl, rfl⟩)
      go_round
      case rel => exact ⟨y + 1, by omega, by omega, hd, rfl⟩
      case measure => simp [intOf]; omega
    · have hb := ahead_bd y hy1 (by omega)
      have hs := ahead_succ y (by omega)
      have hl := lp_01 y
      have hz : t / 86400 < aheadD y + 365 + lp y := by omega
      clear hs g0
      go_wp2_with (go_at_call 124; refine (before_any _ _ (by omega) (by omega)).mono ?_; rintro e w' ⟨rfl, rfl⟩)
      go_loop [6, 7] (fun r k => ∃ m : Int, 1 ≤ m ∧ m ≤ 12 ∧ k = .int .i64 m ∧ 0 ≤ t / 86400 - aheadD y - cum y m ∧ r = .int .i64 (t / 86400 - aheadD y - cum y m)) (fun _ k => (12 - intOf k).toNat)
      case atStart => exact ⟨1, by omega, by omega, rfl, by simp [cum]; omega, by simp [cum]⟩
      case round =>
        obtain ⟨m, hm1, hm2, rfl, hr, rfl⟩ := hrel
        have cb := cum_bd y m hm1 hm2
        have db := dim_bd y m
        have cs := cum_succ y m hm1 hm2
        by_cases hd2 : dim y m ≤ t / 86400 - aheadD y - cum y m
        · have hm : m < 12 := by
            by_cases e : m = 12
            · subst e; have h13 := cum_13 y; simp at cs; omega
            · omega
          have HC := hide cs
          clear cs
          go_wp2_with (go_at_call 125; refine (days_any _ _ _).mono ?_; rintro e w' ⟨rfl, rfl⟩)
          go_round
          case rel => exact ⟨m + 1, by omega, by omega, rfl, by rw [HC.out]; omega, by rw [HC.out]; go_num⟩
          case measure => simp [intOf]; omega
        · clear cs
          go_wp2_with (go_at_call 125; refine (days_any _ _ _).mono ?_; rintro e w' ⟨rfl, rfl⟩)
          refine bodyPost_ret (v := .tuple #[.agg #[.int .i64 y, .int .i64 m, .int .i64 (t / 86400 - aheadD y - cum y m + 1), .int .i64 ((t / 86400 + 4) % 7)], .int .i64 (t % 86400)]) (by simp [results, Tryz.results98, go_sem]) rfl
            ⟨y, m, _, _, _, ⟨⟨hy1, hy2, hm1, hm2, ?_, ?_, ?_⟩, rfl, rfl⟩, rfl, ?_⟩
          · omega
          · omega
          · omega
          · exact (Below.refl _ _).alloc (Nat.le_refl _) _
end Go.Proofs.YtfcbmajogmojbaaGreatDoor
