/-
  What digits count as: the program's and the reference's.
-/
import Derived.Test.YtfbefjpajmigmaaDateG
namespace Go.Proofs.Ytfbefjpajmigmaa
open Go.RowKit DateM Go.Lib

theorem bytes_inj {a b : ByteArray} (h : a.data.toList = b.data.toList) : a = b := by
  apply ByteArray.ext; exact Array.toList_inj.1 h
theorem seq_true {a b : ByteArray} (h : a = b) : (a.toList == b.toList) = true := by subst h; simp
theorem seq_false {a b : ByteArray} (h : a ≠ b) : (a.toList == b.toList) = false := by
  rw [ByteArray.toList_eq, ByteArray.toList_eq]
  simp only [beq_eq_false_iff_ne, ne_eq]
  exact fun e => h (bytes_inj e)

def numF (l : List UInt8) : Int := l.foldl (fun n b => n * 10 + (b.toNat : Int) - 48) 0
theorem numF_snoc (l : List UInt8) (b : UInt8) : numF (l ++ [b]) = numF l * 10 + (b.toNat : Int) - 48 := by simp [numF]
theorem numF_bd (l : List UInt8) (h : l.length ≤ 4) : -60000 ≤ numF l ∧ numF l ≤ 300000 := by
  have hb : ∀ b : UInt8, 0 ≤ (b.toNat : Int) ∧ (b.toNat : Int) ≤ 255 := fun b => by have := b.toNat_lt; omega
  match l, h with
  | [], _ => simp [numF]
  | [a], _ => have := hb a; simp [numF]; omega
  | [a, b], _ => have := hb a; have := hb b; simp [numF]; omega
  | [a, b, c], _ => have := hb a; have := hb b; have := hb c; simp [numF]; omega
  | [a, b, c, d], _ => have := hb a; have := hb b; have := hb c; have := hb d; simp [numF]; omega
theorem take_snoc (s : ByteArray) (k : Nat) (h : k < s.size) : s.data.toList.take (k + 1) = s.data.toList.take k ++ [s[k]] := by
  rw [List.take_succ_eq_append_getElem (by simpa using h)]; rfl

set_option maxHeartbeats 400000 in
theorem number_any (s : ByteArray) (w : World) (hs : s.size ≤ 4) :
    Calls Try.prog 46 #[.string s] w fun e w' => e = .returned (.int .i64 (numF s.data.toList)) ∧ w = w' := by
  go_enter Try.func46, Try.ntmps46
  go_wp2
  go_loop [3, 7] (fun n i => ∃ k : Nat, k ≤ s.size ∧ i = .int .i64 k ∧ n = .int .i64 (numF (s.data.toList.take k))) (fun _ i => s.size - (intOf i).toNat)
  case atStart => exact ⟨0, Nat.zero_le _, rfl, rfl⟩
  case round =>
    obtain ⟨k, hk, rfl, rfl⟩ := hrel
    have hd := numF_bd (s.data.toList.take k) (by have := List.length_take_le k s.data.toList; omega)
    by_cases hlt : k < s.size
    · have hb : (s[k].toNat : Int) ≤ 255 := by have := s[k].toNat_lt; omega
      have HS := hide (show numF (s.data.toList.take (k + 1)) = numF (s.data.toList.take k) * 10 + (s[k].toNat : Int) - 48 by rw [take_snoc s k hlt, numF_snoc])
      go_wp2
      go_round
      case rel => exact ⟨k + 1, by omega, by go_num, by rw [HS.out]⟩
      case measure => simp [intOf]; omega
    · go_wp2
      go_ret
      exact ⟨ret_int (by rw [List.take_of_length_le (by simp; omega)]), rfl⟩

def isDigit (b : UInt8) : Bool := decide (48 ≤ (b.toNat : Int) ∧ (b.toNat : Int) ≤ 57)
def numR (l : List UInt8) : Int := if l.all isDigit = true then numF l else -1

set_option maxHeartbeats 800000 in
theorem rnumber_any (s : ByteArray) (w : World) (hs : s.size ≤ 4) :
    Calls Try.prog 47 #[.string s] w fun e w' => e = .returned (.int .i64 (numR s.data.toList)) ∧ w = w' := by
  go_enter Try.func47, Try.ntmps47
  go_wp2
  go_loop [3, 4] (fun n i => ∃ k : Nat, k ≤ s.size ∧ i = .int .i64 k ∧ n = .int .i64 (numF (s.data.toList.take k)) ∧ (s.data.toList.take k).all isDigit = true) (fun _ i => s.size - (intOf i).toNat)
  case atStart => exact ⟨0, Nat.zero_le _, rfl, rfl, rfl⟩
  case round =>
    obtain ⟨k, hk, rfl, rfl, ha⟩ := hrel
    have hd := numF_bd (s.data.toList.take k) (by have := List.length_take_le k s.data.toList; omega)
    have HA := hide ha
    clear ha
    by_cases hlt : k < s.size
    · have hb : (s[k].toNat : Int) ≤ 255 := by have := s[k].toNat_lt; omega
      have ht := take_snoc s k hlt
      have HS := hide (show numF (s.data.toList.take (k + 1)) = numF (s.data.toList.take k) * 10 + (s[k].toNat : Int) - 48 by rw [ht, numF_snoc])
      have HD := hide (show (s.data.toList.take (k + 1)).all isDigit = isDigit s[k] by rw [ht, List.all_append, HA.out]; simp)
      clear ht
      by_cases hg : 48 ≤ (s[k].toNat : Int) ∧ (s[k].toNat : Int) ≤ 57
      · have HG := hide hg
        obtain ⟨g1, g2⟩ := hg
        go_wp2
        go_round
        case rel => exact ⟨k + 1, by omega, by go_num, by rw [HS.out]; go_num, by rw [HD.out]; simp [isDigit, HG.out]⟩
        case measure => simp [intOf]; omega
      · have HN := hide (show numR s.data.toList = -1 by
          unfold numR
          rw [if_neg]
          intro hall
          have h1 : (s.data.toList.take (k + 1)).all isDigit = true := by
            rw [List.all_eq_true] at hall ⊢
            exact fun x hx => hall x (List.mem_of_mem_take hx)
          rw [HD.out] at h1
          exact hg (by simpa [isDigit] using h1))
        by_cases g1 : (s[k].toNat : Int) < 48
        · clear hg
          go_wp2
          go_ret
          exact ⟨ret_int HN.out.symm, rfl⟩
        · have g2 : 57 < (s[k].toNat : Int) := by omega
          clear hg
          go_wp2
          go_ret
          exact ⟨ret_int HN.out.symm, rfl⟩
    · have e : s.data.toList.take k = s.data.toList := List.take_of_length_le (by simp; omega)
      have HE := hide e
      clear e
      go_wp2
      go_ret
      have h1 := HA.out
      rw [HE.out] at h1
      exact ⟨ret_int (by rw [HE.out]; unfold numR; rw [if_pos h1]), rfl⟩
end Go.Proofs.Ytfbefjpajmigmaa
