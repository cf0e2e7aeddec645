/-
  Whether pieces are more than are played.
-/
import Derived.Test.YtiigkacmahecaaaDoorGrZ
import Derived.Test.YtiigkacmahecaaaDoorFrJ
namespace Go.Proofs.YtiigkacmahecaaaDoor
open Go.RowKit
set_option linter.unusedVariables false
set_option linter.unusedSimpArgs false

def flatB (ls : List BsZ) : List UInt8 := (ls.map fun b => b.2.2).flatten
theorem flat_take {ls : List BsZ} {k : Nat} (h : k < ls.length) : flatB (ls.take (k + 1)) = flatB (ls.take k) ++ ls[k].2.2 := by
  unfold flatB
  rw [List.take_succ_eq_append_getElem h, List.map_append, List.flatten_append]
  simp
theorem flat_mem {ls : List BsZ} {k : Nat} (h : k < ls.length) : ls[k].2.2.length ≤ (flatB ls).length := by
  have h1 : flatB ls = flatB (ls.take (k + 1)) ++ flatB (ls.drop (k + 1)) := by unfold flatB; rw [← List.flatten_append, ← List.map_append, List.take_append_drop]
  rw [h1, flat_take h, List.length_append, List.length_append]
  omega
theorem flat_le (ls : List BsZ) (k : Nat) : (flatB (ls.take k)).length ≤ (flatB ls).length := by
  have h1 : flatB ls = flatB (ls.take k) ++ flatB (ls.drop k) := by unfold flatB; rw [← List.flatten_append, ← List.map_append, List.take_append_drop]
  rw [h1, List.length_append]
  omega
def Great13 (ls : List BsZ) (w : World) (e : Ending) (w' : World) : Prop := ∃ r : Bool, e = .returned (.bool r) ∧ w = w' ∧ (r = false → (flatB ls).length + ls.length ≤ 600)

set_option maxRecDepth 100000 in
set_option maxHeartbeats 4000000 in
theorem great13_any (A : Option Addr) (c : Nat) (ls : List BsZ) (w : World) (hr : RdBB w A c ls) : Calls Tryd.prog 14 #[.slice A ls.length c] w (Great13 ls w) := by
  have hl0 := hr.1
  go_enter Tryd.func14, Tryd.ntmps14
  go_wp2
  go_loop [3, 4] (fun c3 c4 => ∃ (k n : Nat), k ≤ ls.length ∧ c4 = .int .i64 (k : Int) ∧ c3 = .int .i64 (n : Int) ∧ n = (flatB (ls.take k)).length + k ∧ n ≤ 140737488352000) (fun _ c4 => ls.length - (intOf c4).toNat)
  case atStart => exact ⟨0, 0, Nat.zero_le _, rfl, rfl, rfl, Nat.zero_le _⟩
  case round =>
    obtain ⟨k, n, hk, rfl, rfl, hn, hnb⟩ := hrel
    by_cases hlt : k < ls.length
    · obtain ⟨b0, off, hA, hb0, c0, _, hz⟩ := hr.2 k hlt
      subst hA
      by_cases h6 : n ≤ 600
      · have c1 : w.cell? ⟨b0, off + k, none⟩ = some (.slice ls[k].1 ls[k].2.2.length ls[k].2.1) := c0
        have hs : (flatB (ls.take (k + 1))).length = (flatB (ls.take k)).length + ls[k].2.2.length := by rw [flat_take hlt, List.length_append]
        obtain ⟨m, hm⟩ : ∃ m, m = ls[k].2.2.length := ⟨_, rfl⟩
        rw [← hm] at c1 hs hz
        have HM := hide hm
        clear hm c0
        go_wp2
        go_round
        case rel => exact ⟨k + 1, n + 1 + m, by omega, by go_num, by go_num, by omega, by omega⟩
        case measure => simp [intOf] <;> omega
      · have h6' : 600 < n := by omega
        go_wp2
        go_ret
        exact ⟨true, by simp, rfl, by simp⟩
    · have hkk : k = ls.length := by omega
      have hfl : n = (flatB ls).length + ls.length := by rw [hn, hkk, List.take_length]
      by_cases h6 : 600 < n
      · have d6 : decide ((n : Int) > 600) = true := decide_eq_true (by omega)
        clear hfl hn hkk
        go_wp2
        go_ret
        exact ⟨true, by simp, rfl, by simp⟩
      · have d6 : decide ((n : Int) > 600) = false := decide_eq_false (by omega)
        have hfin : (flatB ls).length + ls.length ≤ 600 := by omega
        clear hfl hn hkk
        go_wp2
        go_ret
        exact ⟨false, by simp, rfl, fun _ => hfin⟩

end Go.Proofs.YtiigkacmahecaaaDoor
