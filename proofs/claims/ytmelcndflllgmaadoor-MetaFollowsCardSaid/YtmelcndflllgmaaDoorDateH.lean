/-
  What digits count as: the program's and the reference's.
-/
import Derived.Test.YtmelcndflllgmaaDoorDateG
namespace Go.Proofs.YtmelcndflllgmaaDoor
open Go.RowKit DateM Go.Lib

theorem bytes_inj {a b : ByteArray} (h : a.data.toList = b.data.toList) : a = b := by
  apply ByteArray.ext; exact Array.toList_inj.1 h
theorem seq_true {a b : ByteArray} (h : a = b) : (a.toList == b.toList) = true := by subst h; simp
theorem seq_false {a b : ByteArray} (h : a ≠ b) : (a.toList == b.toList) = false := by
  rw [ByteArray.toList_eq, ByteArray.toList_eq]
  simp only [beq_eq_false_iff_ne, ne_eq]
  exact fun e => h (bytes_inj e)

def numF (l : List UInt8) : Int := l.foldl (fun n b => n * 10 + (b.toNat : Int) - 48) 0
theorem numF_snoc (l : List UInt8) (b : UInt8) : numF (l ++ [b]) = numF l * 10 + (b.toNat : Int) - 48 := by simp [numF]
theorem numF_bd (l : List UInt8) (h : l.length ≤ 4) : -60000 ≤ numF l ∧ numF l ≤ 300000 := by
  have hb : ∀ b : UInt8, 0 ≤ (b.toNat : Int) ∧ (b.toNat : Int) ≤ 255 := fun b => by have := b.toNat_lt; omega
  match l, h with
  | [], _ => simp [numF]
  | [a], _ => have := hb a; simp [numF]; omega
  | [a, b], _ => have := hb a; have := hb b; simp [numF]; omega
  | [a, b, c], _ => have := hb a; have := hb b; have := hb c; simp [numF]; omega
  | [a, b, c, d], _ => have := hb a; have := hb b; have := hb c; have := hb d; simp [numF]; omega
theorem take_snoc (s : ByteArray) (k : Nat) (h : k < s.size) : s.data.toList.take (k + 1) = s.data.toList.take k ++ [s[k]] := by
  rw [List.take_succ_eq_append_getElem (by simpa using h)]; rfl

def isDigit (b : UInt8) : Bool := decide (48 ≤ (b.toNat : Int) ∧ (b.toNat : Int) ≤ 57)
def numR (l : List UInt8) : Int := if l.all isDigit = true then numF l else -1

end Go.Proofs.YtmelcndflllgmaaDoor
