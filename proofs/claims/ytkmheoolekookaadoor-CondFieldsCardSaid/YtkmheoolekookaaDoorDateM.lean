/-
  The calendar in plain numbers: which day a count of days is; no program is in sight here.
-/
import Derived.IntWalk
namespace Go.Proofs.YtkmheoolekookaaDoor.DateM

def leapB (y : Int) : Bool := (y.tmod 4 == 0 && y.tmod 100 != 0) || y.tmod 400 == 0
def dim (y m : Int) : Int := if m = 4 ∨ m = 6 ∨ m = 9 ∨ m = 11 then 30 else if m = 2 then (if leapB y = true then 29 else 28) else 31
def aheadD (y : Int) : Int := 365 * (y - 1970) + ((y - 1) / 4 - (y - 1) / 100 + (y - 1) / 400) - 477
def lp (y : Int) : Int := if leapB y = true then 1 else 0
/-- days of a year ahead of its month m -/
def cum (y m : Int) : Int :=
  if m ≤ 1 then 0 else if m = 2 then 31 else
  (if m = 3 then 59 else if m = 4 then 90 else if m = 5 then 120 else if m = 6 then 151 else if m = 7 then 181 else if m = 8 then 212
   else if m = 9 then 243 else if m = 10 then 273 else if m = 11 then 304 else if m = 12 then 334 else 365) + lp y

theorem leapB_pos (y : Int) (h : 0 ≤ y) : leapB y = ((y % 4 == 0 && y % 100 != 0) || y % 400 == 0) := by
  unfold leapB
  rw [Int.tmod_eq_emod_of_nonneg h, Int.tmod_eq_emod_of_nonneg h, Int.tmod_eq_emod_of_nonneg h]
theorem lp_01 (y : Int) : 0 ≤ lp y ∧ lp y ≤ 1 := by unfold lp; split <;> omega
theorem lp_eq (y : Int) (h : 0 ≤ y) : lp y = y / 4 - y / 100 + y / 400 - ((y - 1) / 4 - (y - 1) / 100 + (y - 1) / 400) := by
  unfold lp
  rw [leapB_pos y h]
  by_cases h4 : y % 4 = 0 <;> by_cases h100 : y % 100 = 0 <;> by_cases h400 : y % 400 = 0 <;> simp [h4, h100, h400] <;> omega
theorem ahead_succ (y : Int) (h : 0 ≤ y) : aheadD (y + 1) = aheadD y + 365 + lp y := by
  have := lp_eq y h
  unfold aheadD
  have e : y + 1 - 1 = y := by omega
  rw [e]
  omega
theorem ahead_mono (a b : Int) (h : a ≤ b) : aheadD a ≤ aheadD b := by unfold aheadD; omega
theorem ahead_lt (a b : Int) (h : a < b) : aheadD a + 365 ≤ aheadD b := by unfold aheadD; omega
theorem ahead_guess (n : Int) (h : 0 ≤ n) : aheadD (1970 + n / 366) ≤ n := by unfold aheadD; omega
theorem ahead_max : aheadD 10000 = 2932897 := by unfold aheadD; decide
theorem ahead_bd (y : Int) (h : 1970 ≤ y) (h1 : y ≤ 10000) : 0 ≤ aheadD y ∧ aheadD y ≤ 2932897 := by unfold aheadD; omega
theorem dim_bd (y m : Int) : 28 ≤ dim y m ∧ dim y m ≤ 31 := by
  unfold dim; split
  · omega
  · split
    · split <;> omega
    · omega
theorem dim_cases (y m : Int) : dim y m = if m = 2 then 28 + lp y else if m = 4 ∨ m = 6 ∨ m = 9 ∨ m = 11 then 30 else 31 := by
  unfold dim lp
  by_cases h2 : m = 2
  · subst h2; simp; split <;> omega
  · simp [h2]
theorem cum_succ (y m : Int) (h1 : 1 ≤ m) (h2 : m ≤ 12) : cum y (m + 1) = cum y m + dim y m := by
  rw [dim_cases]
  obtain h | h | h | h | h | h | h | h | h | h | h | h : m = 1 ∨ m = 2 ∨ m = 3 ∨ m = 4 ∨ m = 5 ∨ m = 6 ∨ m = 7 ∨ m = 8 ∨ m = 9 ∨ m = 10 ∨ m = 11 ∨ m = 12 := by omega
  all_goals (subst h; simp [cum] <;> omega)
theorem cum_13 (y : Int) : cum y 13 = 365 + lp y := by simp [cum]
theorem cum_bd (y m : Int) (h1 : 1 ≤ m) (h2 : m ≤ 12) : 0 ≤ cum y m ∧ cum y m ≤ 335 := by
  have := lp_01 y
  obtain h | h | h | h | h | h | h | h | h | h | h | h : m = 1 ∨ m = 2 ∨ m = 3 ∨ m = 4 ∨ m = 5 ∨ m = 6 ∨ m = 7 ∨ m = 8 ∨ m = 9 ∨ m = 10 ∨ m = 11 ∨ m = 12 := by omega
  all_goals (subst h; simp [cum] <;> omega)
theorem cum_mono1 (y a b : Int) (h1 : 1 ≤ a) (h : a < b) (h2 : b ≤ 12) : cum y a + dim y a ≤ cum y b := by
  rw [← cum_succ y a h1 (by omega)]
  have hl := lp_01 y
  obtain h | h | h | h | h | h | h | h | h | h | h : a = 1 ∨ a = 2 ∨ a = 3 ∨ a = 4 ∨ a = 5 ∨ a = 6 ∨ a = 7 ∨ a = 8 ∨ a = 9 ∨ a = 10 ∨ a = 11 := by omega
  all_goals
    subst h
    obtain g | g | g | g | g | g | g | g | g | g | g : b = 2 ∨ b = 3 ∨ b = 4 ∨ b = 5 ∨ b = 6 ∨ b = 7 ∨ b = 8 ∨ b = 9 ∨ b = 10 ∨ b = 11 ∨ b = 12 := by omega
    all_goals (subst g; first | omega | (simp [cum] <;> omega))

/-- Day number n (from 1970 on) is the d-th of month m of year y. -/
def IsDay (n y m d : Int) : Prop := 1970 ≤ y ∧ y ≤ 9999 ∧ 1 ≤ m ∧ m ≤ 12 ∧ 1 ≤ d ∧ d ≤ dim y m ∧ aheadD y + cum y m + (d - 1) = n

theorem IsDay.uniq {n y m d y' m' d' : Int} (h : IsDay n y m d) (h' : IsDay n y' m' d') : y = y' ∧ m = m' ∧ d = d' := by
  obtain ⟨a1, a2, a3, a4, a5, a6, a7⟩ := h
  obtain ⟨b1, b2, b3, b4, b5, b6, b7⟩ := h'
  have ca := cum_bd y m a3 a4
  have cb := cum_bd y' m' b3 b4
  have sa : cum y m + dim y m ≤ 365 + lp y := by
    by_cases e : m = 12
    · have := cum_succ y 12 (by omega) (by omega); have c := cum_13 y; subst e; simp at this; omega
    · have := cum_mono1 y m 12 a3 (by omega) (by omega)
      have := cum_succ y 12 (by omega) (by omega); have c := cum_13 y; have := dim_bd y 12; simp at *; omega
  have sb : cum y' m' + dim y' m' ≤ 365 + lp y' := by
    by_cases e : m' = 12
    · have := cum_succ y' 12 (by omega) (by omega); have c := cum_13 y'; subst e; simp at this; omega
    · have := cum_mono1 y' m' 12 b3 (by omega) (by omega)
      have := cum_succ y' 12 (by omega) (by omega); have c := cum_13 y'; have := dim_bd y' 12; simp at *; omega
  have ey : y = y' := by
    rcases Int.lt_trichotomy y y' with h | h | h
    · have := ahead_mono (y + 1) y' (by omega); have := ahead_succ y (by omega); omega
    · exact h
    · have := ahead_mono (y' + 1) y (by omega); have := ahead_succ y' (by omega); omega
  subst ey
  have em : m = m' := by
    rcases Int.lt_trichotomy m m' with h | h | h
    · have := cum_mono1 y m m' a3 h b4; omega
    · exact h
    · have := cum_mono1 y m' m b3 h a4; omega
  subst em
  exact ⟨rfl, rfl, by omega⟩

end Go.Proofs.YtkmheoolekookaaDoor.DateM
