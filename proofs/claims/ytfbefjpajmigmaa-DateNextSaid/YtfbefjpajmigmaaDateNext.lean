/-
  A day later it is the next day of the week, of the same second; the day of the month is one more, or the first one of the next month, or year: for every int64.
-/
import Derived.Test.YtfbefjpajmigmaaDateX
import Derived.Test.YtfbefjpajmigmaaLift
import Derived.Lib.SmallJoins
namespace Go.Proofs.Ytfbefjpajmigmaa.dateNext
open Go.ChangeShapes Go.WideShapes Go.ChangeAt Go.RowKit DateM Go.Lib
set_option linter.unusedVariables false

theorem next_day {t y m d k s y' m' d' k' s' : Int} (h : Told t y m d k s) (h' : Told (t + 86400) y' m' d' k' s') :
    s = s' ∧ k' = (k + 1) % 7 ∧ ((d' = d + 1 ∧ m' = m ∧ y' = y ∧ d' ≠ 1) ∨ (d' = 1 ∧ m' = m + 1 ∧ y' = y ∧ m' ≠ 1 ∧ 28 ≤ d ∧ d ≤ 31) ∨ (d' = 1 ∧ m' = 1 ∧ y' = y + 1 ∧ d = 31 ∧ m = 12)) := by
  obtain ⟨h1, rfl, rfl⟩ := h
  obtain ⟨h2, rfl, rfl⟩ := h'
  have e : (t + 86400) / 86400 = t / 86400 + 1 := by omega
  rw [e] at h2 ⊢
  refine ⟨by omega, by omega, ?_⟩
  have h1' := h1
  have h2' := h2
  obtain ⟨a1, a2, a3, a4, a5, a6, a7⟩ := h1
  obtain ⟨g1, g2, g3, g4, g5, g6, g7⟩ := h2
  have db := dim_bd y m
  by_cases hd : d < dim y m
  · obtain ⟨rfl, rfl, rfl⟩ := h2'.uniq (show IsDay (t / 86400 + 1) y m (d + 1) from ⟨a1, a2, a3, a4, by omega, by omega, by omega⟩)
    exact .inl ⟨rfl, rfl, rfl, by omega⟩
  · by_cases hm : m < 12
    · have cs := cum_succ y m a3 a4
      have d2 := dim_bd y (m + 1)
      obtain ⟨rfl, rfl, rfl⟩ := h2'.uniq (show IsDay (t / 86400 + 1) y (m + 1) 1 from ⟨a1, a2, by omega, by omega, by omega, by omega, by omega⟩)
      exact .inr (.inl ⟨rfl, rfl, rfl, by omega, by omega, by omega⟩)
    · obtain rfl : m = 12 := by omega
      have d12 : dim y 12 = 31 := rfl
      have cs := cum_succ y 12 (by omega) (by omega)
      have c13 := cum_13 y
      have asu := ahead_succ y (by omega)
      simp at cs
      by_cases hy : y < 9999
      · have d1 := dim_bd (y + 1) 1
        have c1 : cum (y + 1) 1 = 0 := rfl
        obtain ⟨rfl, rfl, rfl⟩ := h2'.uniq (show IsDay (t / 86400 + 1) (y + 1) 1 1 from ⟨by omega, by omega, by omega, by omega, by omega, by omega, by omega⟩)
        exact .inr (.inr ⟨rfl, rfl, rfl, by omega, rfl⟩)
      · exfalso
        obtain rfl : y = 9999 := by omega
        have hb := ahead_mono y' 9999 g2
        have hs' := ahead_succ y' (by omega)
        have hl' := lp_01 y'
        have hmx := ahead_max
        have hm2 : cum y' m' + dim y' m' ≤ 365 + lp y' := by
          by_cases e : m' = 12
          · have := cum_succ y' 12 (by omega) (by omega); have c := cum_13 y'; subst e; simp at this; omega
          · have := cum_mono1 y' m' 12 g3 (by omega) (by omega)
            have := cum_succ y' 12 (by omega) (by omega); have c := cum_13 y'; have := dim_bd y' 12; simp at *; omega
        have hb2 := ahead_mono (y' + 1) 10000 (by omega)
        have e9 : (9999 : Int) + 1 = 10000 := rfl
        rw [e9] at asu
        omega
theorem chain4 {w w1 w2 w3 : World} {o o' : Obj} (h1 : Below w.heap.size w w1) (h2 : Below w1.heap.size w1 w2) (h3 : Below (w2.alloc o).heap.size (w2.alloc o) w3) : Below w.heap.size w (w3.alloc o') := by
  have z1 := h1.size
  have z2 := h2.size
  have z3 := h3.size
  simp only [World.size_alloc] at z3
  have a1 := (h1.trans (h2.mono z1)).alloc (Nat.le_trans z1 z2) o
  exact (a1.trans (h3.mono (by simp; omega))).alloc (by omega) o'
set_option maxRecDepth 100000 in
set_option maxHeartbeats 2000000 in
theorem walk (a : Int) (w : World) : Calls Try.prog 11 #[.int .i64 a] w (TrueOk w) := by
  by_cases hr : a < 0 ∨ 253402214399 < a
  · by_cases h0 : a < 0
    all_goals
      go_enter Try.func11, Try.ntmps11
      go_wp2_with fail
      refine (wakes_any _).mono ?_
      rintro e w1 ⟨rfl, hb1⟩
      go_wp2
      go_ret
      exact ⟨rfl, hb1⟩
  · have r1 : 0 ≤ a := by omega
    have r2 : a ≤ 253402214399 := by omega
    clear hr
    go_enter Try.func11, Try.ntmps11
    go_wp2_with fail
    refine (wakes_any _).mono ?_
    rintro e w1 ⟨rfl, hb1⟩
    go_wp2_with fail
    refine (of_yes _ _ (by omega) (by omega)).mono ?_
    rintro e w2 ⟨y, m, d, k, s, ht, rfl, hb2⟩
    go_wp2_with fail
    refine (of_yes _ _ (by omega) (by omega)).mono ?_
    rintro e w3 ⟨y', m', d', k', s', ht', rfl, hb3⟩
    have hn := next_day ht ht'
    have bd := ht.bd
    clear ht ht'
    obtain ⟨rfl, rfl, hn⟩ := hn
    obtain ⟨b1, b2, b3, b4, b5, b6, b7, b8, b9, b10⟩ := bd
    obtain ⟨c0, c1, c2, c3⟩ := day_cells' hb3
    have z3 := hb3.size
    simp only [World.size_alloc] at z3
    have z4 : w2.heap.size < w3.heap.size := by omega
    clear z3
    have HB := hide (chain4 hb1 hb2 hb3 (o' := .cells #[.int .i64 y', .int .i64 m', .int .i64 d', .int .i64 ((k + 1) % 7)] 42))
    rcases hn with ⟨rfl, rfl, rfl, h1⟩ | ⟨rfl, rfl, rfl, h1, h2, h3⟩ | ⟨rfl, rfl, rfl, rfl, rfl⟩
    · have hx : ((d + 1) != 1) = true := by simpa using h1
      clear h1
      go_wp2
      go_ret
      exact ⟨ret_bool (by simp), HB.out⟩
    · have hx : ((m + 1) != 1) = true := by simpa using h1
      have h2' : decide (28 ≤ d) = true := by simpa using h2
      have h3' : decide (d ≤ 31) = true := by simpa using h3
      clear h1
      go_wp2
      go_ret
      exact ⟨ret_bool (by simp), HB.out⟩
    · go_wp2
      go_ret
      exact ⟨ret_bool (by simp), HB.out⟩

theorem ps : ∀ t ∈ Try.f11.params.toList, Try.prog.readableRec t = true ∧ t < Try.prog.types.size := by
  rw [Try.params11]
  intro t ht
  obtain rfl : t = _ := by simpa using ht
  exact ⟨by kernel_rfl, of_decide_eq_true (by kernel_rfl)⟩

set_option maxRecDepth 100000 in
theorem lifted (os : Os) (started : os.Started) (H : Type) (enc : TypeId × Value → H) :
    ReturnsInHanded {} Try.checked os 11 .any (Rows.dateNextSpec.pre6 enc Try.prog Try.f11 Rows.dateNextRow.domain false) (Rows.dateNextSpec.post enc Try.prog Try.f11 false true false false) := by
  refine returnsInHanded_of_change (C := Try.checked) law_own started (by kernel_rfl) Try.func11
    (ChangeSpec.witness6 (enc := enc) (C := Try.checked) false ⟨#[], #[.int .i64 0], []⟩ 8 (by kernel_rfl) (by kernel_rfl) (by kernel_rfl) (by kernel_rfl)) ?_
  intro W base args ds gs before hval0 hW hcnd _
  have hval : ∀ (j : Nat) t v, Try.f11.params[j]? = some t → args[j]? = some v → Value.okWide Try.prog W .any base t v := hval0
  have hW' := hW
  have hlt : ∀ p ∈ before, p.block < W.heap.size := fun p hp => hW.lt p hp
  obtain ⟨p, q, hA0, hV, rfl, hfz, hnd⟩ := hW
  have hA : DataW.TrodAll enc Try.prog W 0 (fun _ => true) true Try.f11.params.toList args.toList ds p := hA0
  rw [Try.params11] at hA hval
  obtain ⟨v0, vs0, d0, ds0, p0, q0, hargs, rfl, rfl, h0, r0⟩ := trodAll_cons hA
  obtain ⟨rfl, rfl, rfl⟩ := trodAll_nil r0
  obtain rfl : args = #[v0] := by cases args; simp_all
  obtain ⟨rfl, rfl⟩ := trodVars_none hV
  obtain ⟨a0, rfl, rfl, rfl, w0⟩ := open_int Try.underlying2 (hval 0 2 v0 rfl rfl) h0
  clear hA0 hval0
  refine (walk a0 W).mono fun e W' ⟨he, hb⟩ => ?_
  subst he
  exact ⟨_, rfl, law_close hW' rfl rfl rfl ps hb⟩

theorem proved : Rows.DateNextSaid :=
  OpenClaim.holds_of_wide 11 Try.f11 rfl rfl rfl rfl rfl rfl rfl ⟨rfl, rfl, rfl, rfl, rfl⟩ rfl rfl rfl rfl rfl (by kernel_rfl) Try.func11 (by kernel_rfl)
    (of_decide_eq_true (by kernel_rfl)) (by unfold Func.isWrapper; first | (rw [if_pos (by decide +kernel)]; kernel_rfl) | (rw [if_neg (by decide +kernel)]; exact ⟨rfl, rfl⟩))
    (fun os started H enc _ => lifted os started H enc)
#print axioms proved
end Go.Proofs.Ytfbefjpajmigmaa.dateNext
