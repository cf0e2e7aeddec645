/-
  A number's text: the reference's functions.
-/
import Derived.Test.YtkkhiahdmlmecaaDoorRctA
import Derived.Test.YtkkhiahdmlmecaaDoorBytes
namespace Go.Proofs.YtkkhiahdmlmecaaDoor
open Go.RowKit
set_option linter.unusedVariables false
set_option linter.unusedSimpArgs false

/-- The last digit of a number. -/
def dg1 (n : Int) : UInt8 := UInt8.ofNat (48 + n % 10).toNat
theorem dg1_nat (n : Int) : ((dg1 n).toNat : Int) = 48 + n % 10 := by
  unfold dg1
  rw [UInt8.toNat_ofNat']
  have : (48 + n % 10).toNat % 256 = (48 + n % 10).toNat := Nat.mod_eq_of_lt (by omega)
  omega
theorem itoa_lt {n : Int} (h0 : 0 ≤ n) (h : n < 10) : Lib.itoa n = [dg1 n] := by
  obtain ⟨u, rfl⟩ := Int.eq_ofNat_of_zero_le h0
  rw [Lib.itoa_nonneg, Lib.decDigits, dif_pos (by omega)]
  unfold dg1
  rw [show (48 + (u : Int) % 10).toNat = 48 + u by omega]
theorem itoa_ge {n : Int} (h : 10 ≤ n) : Lib.itoa n = Lib.itoa (n / 10) ++ [dg1 n] := by
  obtain ⟨u, rfl⟩ := Int.eq_ofNat_of_zero_le (show 0 ≤ n by omega)
  rw [show ((u : Int) / 10) = ((u / 10 : Nat) : Int) by omega, Lib.itoa_nonneg, Lib.itoa_nonneg, Lib.decDigits, dif_neg (by omega)]
  unfold dg1
  rw [show (48 + (u : Int) % 10).toNat = 48 + u % 10 by omega]
theorem bapp (a b : List UInt8) : ((⟨a.toArray⟩ : ByteArray) ++ ⟨b.toArray⟩) = ⟨(a ++ b).toArray⟩ := by apply ByteArray.ext; simp [ByteArray.data_append]
theorem ret_str {a b : ByteArray} (h : a = b) : Ending.returned (.string a) = .returned (.string b) := by rw [h]
theorem dg1_mod (n : Int) : dg1 (n % 10) = dg1 n := by unfold dg1; rw [show n % 10 % 10 = n % 10 by omega]

set_option maxRecDepth 100000 in
set_option maxHeartbeats 2000000 in
theorem rnum_fuel : ∀ (k : Nat) (n : Int) (w : World), 0 ≤ n → n < k → n ≤ 9223372036854775807 → Calls Tryd.prog 33 #[.int .i64 n] w (StrIs (Lib.itoa n) w)
  | 0, n, w, h0, h, _ => absurd h (by omega)
  | k + 1, n, w, h0, h, hm => by
    by_cases h1 : n < 10
    · have d1 : decide (n < 10) = true := by simpa using h1
      have hx := hide (itoa_lt h0 h1)
      have hcv : ∀ W : World, (convert 83 9 (.slice (some ⟨W.heap.size, 0, none⟩) 1 1)).run Tryd.prog (W.alloc (.cells #[.int .u8 (48 + n)] 5)) = .ok (.string ⟨[dg1 n].toArray⟩) (W.alloc (.cells #[.int .u8 (48 + n)] 5)) := fun W => by
        refine run_convert_bytes_back _ _ _ _ _ 1 [dg1 n] Tryd.underlying83 Tryd.underlying5 Tryd.underlying9 ?_
        intro j hj
        obtain rfl : j = 0 := by simpa using hj
        have e : n % 10 = n := Int.emod_eq_of_lt h0 h1
        simp [dg1_nat, go_sem, Addr.add, e]
      go_enter Tryd.func33, Tryd.ntmps33
      go_wp2
      go_ret
      exact ⟨ret_str (by rw [hx.out]), (Below.refl _ _).alloc (Nat.le_refl _) _⟩
    · have d1 : decide (n < 10) = false := by simpa using h1
      have hx := hide (itoa_ge (n := n) (by omega))
      have hy := hide (itoa_lt (n := n % 10) (by omega) (by omega))
      have z1 : (Lib.itoa (n / 10)).length ≤ 21 := Lib.itoa_length_le _ (by omega) (by omega)
      have z2 : (Lib.itoa (n % 10)).length = 1 := by rw [hy.out]; rfl
      have hJ : ¬ 9223372036854775807 < (Lib.itoa (n / 10)).length + (Lib.itoa (n % 10)).length := by omega
      clear z1 z2
      go_enter Tryd.func33, Tryd.ntmps33
      go_wp2_with fail
      refine (rnum_fuel k (n / 10) _ (by omega) (by omega) (by omega)).mono ?_
      rintro e w1 ⟨rfl, hb1⟩
      go_wp2_with fail
      refine (rnum_fuel k (n % 10) _ (by omega) (by omega) (by omega)).mono ?_
      rintro e w2 ⟨rfl, hb2⟩
      go_wp2
      go_ret
      exact ⟨ret_str (by rw [bapp, hx.out, hy.out, dg1_mod]), hb1.trans (hb2.mono hb1.size)⟩

theorem rnum_any (n : Int) (w : World) (h0 : 0 ≤ n) (hm : n ≤ 9223372036854775807) : Calls Tryd.prog 33 #[.int .i64 n] w (StrIs (Lib.itoa n) w) := rnum_fuel (n.toNat + 1) n w h0 (by omega) hm

end Go.Proofs.YtkkhiahdmlmecaaDoor
