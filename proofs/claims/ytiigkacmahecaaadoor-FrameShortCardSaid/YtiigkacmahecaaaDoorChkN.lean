/-
  What is made is read as it was: plain laws.
-/
import Derived.Test.YtiigkacmahecaaaDoorGrCh
import Derived.Test.YtiigkacmahecaaaDoorGrHx
import Derived.Test.YtiigkacmahecaaaDoorChkG
namespace Go.Proofs.YtiigkacmahecaaaDoor
set_option linter.unusedVariables false
set_option linter.unusedSimpArgs false
theorem hexC_digit (d : Nat) (h : d < 16) : digV (hexC d).toNat = some d := by
  have h : d = 0 ∨ d = 1 ∨ d = 2 ∨ d = 3 ∨ d = 4 ∨ d = 5 ∨ d = 6 ∨ d = 7 ∨ d = 8 ∨ d = 9 ∨ d = 10 ∨ d = 11 ∨ d = 12 ∨ d = 13 ∨ d = 14 ∨ d = 15 := by omega
  rcases h with rfl | rfl | rfl | rfl | rfl | rfl | rfl | rfl | rfl | rfl | rfl | rfl | rfl | rfl | rfl | rfl <;> rfl
theorem step_digit (s d l : Nat) (k : Nat) (hk : k < 16) (hd : d ≠ 15) : stepM ⟨0, s, d, l, 0⟩ (hexC k).toNat = some (⟨0, s * 16 + k, d + 1, l + 1, 0⟩, false) := by
  simp only [stepM, hexC_digit k hk]
  rw [if_neg hd]
theorem run_hex : ∀ (k n : Nat), n < 16 ^ (k + 1) → k ≤ 11 → runM Rs.zero (hexB n) = some (⟨0, n, (hexB n).length, (hexB n).length, 0⟩, [])
  | 0, n, h, _ => by
    rw [hexB_low (by simpa using h), runM_one]
    rw [show Rs.zero = ⟨0, 0, 0, 0, 0⟩ from rfl, step_digit 0 0 0 n (by simpa using h) (by omega)]
    simp
  | k + 1, n, h, hk => by
    by_cases h16 : n < 16
    · rw [hexB_low h16, runM_one]
      rw [show Rs.zero = ⟨0, 0, 0, 0, 0⟩ from rfl, step_digit 0 0 0 n h16 (by omega)]
      simp
    · have hq : n / 16 < 16 ^ (k + 1) := by rw [Nat.pow_succ] at h; omega
      have hl := hexB_len k (n / 16) hq
      rw [hexB_high h16, runM_append, run_hex k (n / 16) hq (by omega)]
      simp only
      rw [runM_one, step_digit _ _ _ _ (by omega) (by omega)]
      simp
      omega
theorem hexB_pos (n : Nat) : 0 < (hexB n).length := by
  by_cases h : n < 16
  · rw [hexB_low h]; simp
  · rw [hexB_high h]; simp
theorem run_put (bs : List UInt8) (h : bs.length < 281474976710656) : runM Rs.zero (putL bs) = some (Rs.zero, bs) := by
  by_cases hn : bs = []
  · subst hn; rfl
  · have hp : 0 < bs.length := List.length_pos_iff.2 hn
    unfold putL
    rw [if_neg hn, runM_append, run_hex 11 bs.length (by omega) (by omega)]
    simp only
    rw [runM_append]
    have e1 : runM ⟨0, bs.length, (hexB bs.length).length, (hexB bs.length).length, 0⟩ [13, 10] = some (⟨3, bs.length, (hexB bs.length).length, 0, 0⟩, []) := by
      have hx := hexB_pos bs.length
      have s1 : stepM ⟨0, bs.length, (hexB bs.length).length, (hexB bs.length).length, 0⟩ 13 = some (⟨2, bs.length, (hexB bs.length).length, (hexB bs.length).length, 0⟩, false) := by
        simp only [stepM]
        rw [show digV 13 = none from rfl]
        simp only
        rw [if_neg (by omega)]
        simp
      have s2 : stepM ⟨2, bs.length, (hexB bs.length).length, (hexB bs.length).length, 0⟩ 10 = some (⟨3, bs.length, (hexB bs.length).length, 0, 0⟩, false) := by
        simp only [stepM]
        rw [if_pos trivial, if_neg (by omega)]
      simp only [runM, show (13 : UInt8).toNat = 13 from rfl, show (10 : UInt8).toNat = 10 from rfl, s1, s2]
      simp
    rw [e1]
    simp only
    rw [runM_append, runM_data bs ⟨3, bs.length, (hexB bs.length).length, 0, 0⟩ rfl hp (Nat.le_refl _)]
    simp only
    have e2 : runM ⟨4, 0, (hexB bs.length).length, 0, 0⟩ [13, 10] = some (Rs.zero, []) := by
      simp [runM, stepM, Rs.zero]
    simp only [if_true, Nat.sub_self, e2]
    simp
theorem run_whole (s : Nat) : ∀ (k : Nat) (bs : List UInt8), bs.length ≤ k → bs.length ≤ 100000 → runM Rs.zero (wholeL s bs) = some (Rs.zero, bs)
  | 0, bs, hk, _ => by
    have : bs = [] := List.eq_nil_of_length_eq_zero (by omega)
    subst this; rw [whole_nil]; rfl
  | k + 1, bs, hk, h => by
    by_cases hn : bs = []
    · subst hn; rw [whole_nil]; rfl
    · have hp : 0 < bs.length := List.length_pos_iff.2 hn
      rw [whole_cons hn, runM_append, run_put _ (by simp; omega)]
      simp only
      rw [run_whole s k (bs.drop (s + 1)) (by simp; omega) (by simp; omega)]
      simp
theorem run_last : runM Rs.zero lastL = some (⟨9, 0, 1, 0, 0⟩, []) := rfl
theorem run_last4 : runM Rs.zero [48, 13, 10, 13] = some (⟨8, 0, 1, 0, 0⟩, []) := rfl
/-- The whole body, and whatever stands behind it. -/
theorem take_whole (s : Nat) (bs more : List UInt8) (h : bs.length ≤ 100000) : takeM Rs.zero ((wholeL s bs ++ lastL) ++ more) = ((wholeL s bs ++ lastL).length, ⟨9, 0, 1, 0, 0⟩, bs, true) := by
  refine takeM_stop _ _ ?_ (by simp) (.inl rfl)
  rw [List.take_left' rfl, runM_append, run_whole s bs.length bs (Nat.le_refl _) h]
  simp only
  rw [run_last]
  simp
/-- The whole body but for its last byte. -/
theorem take_cut (s : Nat) (bs : List UInt8) (h : bs.length ≤ 100000) : takeM Rs.zero ((wholeL s bs ++ lastL).take ((wholeL s bs ++ lastL).length - 1)) = ((wholeL s bs ++ lastL).length - 1, ⟨8, 0, 1, 0, 0⟩, bs, true) := by
  have e : (wholeL s bs ++ lastL).take ((wholeL s bs ++ lastL).length - 1) = wholeL s bs ++ [48, 13, 10, 13] := by
    rw [List.take_append]
    have e1 : (wholeL s bs ++ lastL).length - 1 = (wholeL s bs).length + 4 := by simp [lastL]
    rw [e1, List.take_of_length_le (by omega)]
    simp [lastL]
  have hl : (wholeL s bs ++ lastL).length - 1 = (wholeL s bs ++ [48, 13, 10, 13]).length := by simp [lastL]
  rw [e, hl]
  refine takeM_stop _ _ ?_ (Nat.le_refl _) (.inr rfl)
  rw [List.take_length, runM_append, run_whole s bs.length bs (Nat.le_refl _) h]
  simp only
  rw [run_last4]
  simp
theorem take_put (bs : List UInt8) (h : bs.length ≤ 100000) : takeM Rs.zero (putL bs) = ((putL bs).length, Rs.zero, bs, true) := by
  refine takeM_stop _ _ ?_ (Nat.le_refl _) (.inr rfl)
  rw [List.take_length, run_put bs (by omega)]
/-- Chunks one behind the other. -/
def putsL : List (List UInt8) → List UInt8
  | [] => []
  | b :: l => putL b ++ putsL l
theorem run_puts : ∀ (l : List (List UInt8)), (∀ b ∈ l, b.length ≤ 100000) → runM Rs.zero (putsL l) = some (Rs.zero, l.flatten)
  | [], _ => rfl
  | b :: l, h => by
    have h1 := h b (List.mem_cons_self ..)
    unfold putsL
    rw [runM_append, run_put b (by omega)]
    simp only
    rw [run_puts l (fun c hc => h c (List.mem_cons_of_mem _ hc))]
    simp
theorem take_puts (l : List (List UInt8)) (h : ∀ b ∈ l, b.length ≤ 100000) : takeM Rs.zero (putsL l ++ lastL) = ((putsL l ++ lastL).length, ⟨9, 0, 1, 0, 0⟩, l.flatten, true) := by
  refine takeM_stop _ _ ?_ (Nat.le_refl _) (.inr rfl)
  rw [List.take_length, runM_append, run_puts l h]
  simp only
  rw [run_last]
  simp
theorem puts_snoc (l : List (List UInt8)) (b : List UInt8) : putsL (l ++ [b]) = putsL l ++ putL b := by
  induction l with
  | nil => simp [putsL]
  | cons c l ih => simp [putsL, ih]
theorem puts_len : ∀ (l : List (List UInt8)), (∀ b ∈ l, b.length ≤ 100000) → (putsL l).length ≤ 17 * l.flatten.length
  | [], _ => by simp [putsL]
  | b :: l, h => by
    have h1 := put_len b (h b (List.mem_cons_self ..))
    have h2 := puts_len l (fun c hc => h c (List.mem_cons_of_mem _ hc))
    simp [putsL] at h2 ⊢
    omega
end Go.Proofs.YtiigkacmahecaaaDoor
