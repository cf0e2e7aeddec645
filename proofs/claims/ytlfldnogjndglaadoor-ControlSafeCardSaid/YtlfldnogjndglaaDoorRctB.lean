/-
  A number's text: the reference's functions.
-/
import Derived.Test.YtlfldnogjndglaaDoorRctA
import Derived.Test.YtlfldnogjndglaaDoorGrU
namespace Go.Proofs.YtlfldnogjndglaaDoor
open Go.RowKit
set_option linter.unusedVariables false
set_option linter.unusedSimpArgs false

/-- The last digit of a number. -/
def dg1 (n : Int) : UInt8 := UInt8.ofNat (48 + n % 10).toNat
theorem dg1_nat (n : Int) : ((dg1 n).toNat : Int) = 48 + n % 10 := by
  unfold dg1
  rw [UInt8.toNat_ofNat']
  have : (48 + n % 10).toNat % 256 = (48 + n % 10).toNat := Nat.mod_eq_of_lt (by omega)
  omega
theorem itoa_lt {n : Int} (h0 : 0 ≤ n) (h : n < 10) : Lib.itoa n = [dg1 n] := by
  obtain ⟨u, rfl⟩ := Int.eq_ofNat_of_zero_le h0
  rw [Lib.itoa_nonneg, Lib.decDigits, dif_pos (by omega)]
  unfold dg1
  rw [show (48 + (u : Int) % 10).toNat = 48 + u by omega]
theorem itoa_ge {n : Int} (h : 10 ≤ n) : Lib.itoa n = Lib.itoa (n / 10) ++ [dg1 n] := by
  obtain ⟨u, rfl⟩ := Int.eq_ofNat_of_zero_le (show 0 ≤ n by omega)
  rw [show ((u : Int) / 10) = ((u / 10 : Nat) : Int) by omega, Lib.itoa_nonneg, Lib.itoa_nonneg, Lib.decDigits, dif_neg (by omega)]
  unfold dg1
  rw [show (48 + (u : Int) % 10).toNat = 48 + u % 10 by omega]
theorem bapp (a b : List UInt8) : ((⟨a.toArray⟩ : ByteArray) ++ ⟨b.toArray⟩) = ⟨(a ++ b).toArray⟩ := by apply ByteArray.ext; simp [ByteArray.data_append]
theorem ret_str {a b : ByteArray} (h : a = b) : Ending.returned (.string a) = .returned (.string b) := by rw [h]
theorem dg1_mod (n : Int) : dg1 (n % 10) = dg1 n := by unfold dg1; rw [show n % 10 % 10 = n % 10 by omega]

end Go.Proofs.YtlfldnogjndglaaDoor
