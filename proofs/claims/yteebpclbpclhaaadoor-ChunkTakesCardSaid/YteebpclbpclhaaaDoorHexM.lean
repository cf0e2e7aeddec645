/-
  Numbers in sixteens, in plain words.
-/
namespace Go.Proofs.YteebpclbpclhaaaDoor
def hexC (d : Nat) : UInt8 := if d < 10 then UInt8.ofNat (48 + d) else UInt8.ofNat (87 + d)
def hexB (n : Nat) : List UInt8 := if n < 16 then [hexC n] else hexB (n / 16) ++ [hexC (n % 16)]
theorem hexB_low {n : Nat} (h : n < 16) : hexB n = [hexC n] := by unfold hexB; rw [if_pos h]
theorem hexB_high {n : Nat} (h : ¬ n < 16) : hexB n = hexB (n / 16) ++ [hexC (n % 16)] := by
  rw [hexB, if_neg h]
theorem hex_round {n u : Nat} {suf : List UInt8} (h : ¬ u < 16) (e : hexB n = hexB u ++ suf) (hb : u * 16 ^ suf.length ≤ n) :
    hexB n = hexB (u / 16) ++ (hexC (u % 16) :: suf) ∧ u / 16 * 16 ^ (hexC (u % 16) :: suf).length ≤ n := by
  refine ⟨by rw [e, hexB_high h]; simp, ?_⟩
  have h1 : u / 16 * 16 ≤ u := Nat.div_mul_le_self u 16
  simp only [List.length_cons, Nat.pow_succ]
  calc u / 16 * (16 ^ suf.length * 16) = (u / 16 * 16) * 16 ^ suf.length := by rw [Nat.mul_comm (16 ^ suf.length) 16, Nat.mul_assoc]
    _ ≤ u * 16 ^ suf.length := Nat.mul_le_mul_right _ h1
    _ ≤ n := hb
theorem hex_short {n u : Nat} {suf : List UInt8} (h : 0 < u) (hb : u * 16 ^ suf.length ≤ n) (hn : n < 16 ^ 12) : suf.length ≤ 11 := by
  rcases Nat.lt_or_ge suf.length 12 with h1 | h1
  · omega
  · have h2 : 16 ^ 12 ≤ 16 ^ suf.length := Nat.pow_le_pow_right (by omega) h1
    have h3 : 1 * 16 ^ suf.length ≤ u * 16 ^ suf.length := Nat.mul_le_mul_right _ h
    omega
theorem hexB_len : ∀ (k n : Nat), n < 16 ^ (k + 1) → (hexB n).length ≤ k + 1
  | 0, n, h => by rw [hexB_low (by simpa using h)]; simp
  | k + 1, n, h => by
    by_cases h16 : n < 16
    · rw [hexB_low h16]; simp
    · rw [hexB_high h16]
      have := hexB_len k (n / 16) (by rw [Nat.pow_succ] at h; omega)
      simp; omega
end Go.Proofs.YteebpclbpclhaaaDoor
