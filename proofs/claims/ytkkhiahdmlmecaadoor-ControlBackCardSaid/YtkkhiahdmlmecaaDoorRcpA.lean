/-
  A directive's number: the reference's walk.
-/
import Derived.Test.YtkkhiahdmlmecaaDoorCpC
namespace Go.Proofs.YtkkhiahdmlmecaaDoor
open Go.RowKit
set_option linter.unusedVariables false
set_option linter.unusedSimpArgs false

def IntGot (n : Int) (w : World) (e : Ending) (w' : World) : Prop := e = .returned (.int .i64 n) ∧ w = w'
theorem retI {a b : Int} (h : a = b) : Ending.returned (.int .i64 a) = .returned (.int .i64 b) := by rw [h]

set_option maxHeartbeats 400000 in
theorem most_any (w : World) : Calls Tryd.prog 57 #[] w (IntGot 1099511627776 w) := by
  go_enter Tryd.func57, Tryd.ntmps57
  go_wp2
  go_ret
  exact ⟨rfl, rfl⟩

set_option maxHeartbeats 1000000 in
theorem less_any (a b : Int) (w : World) : Calls Tryd.prog 52 #[.int .i64 a, .int .i64 b] w (IntGot (lessV a b) w) := by
  by_cases h1 : b < 0
  · have d1 : decide (b < 0) = true := decide_eq_true h1
    have HV := hide (show lessV a b = a by unfold lessV; rw [if_pos (by omega)])
    go_enter Tryd.func52, Tryd.ntmps52
    go_wp2
    go_ret
    exact ⟨retI HV.out.symm, rfl⟩
  · have d1 : decide (b < 0) = false := decide_eq_false h1
    by_cases h2 : 0 ≤ a
    · have d2 : decide (0 ≤ a) = true := decide_eq_true h2
      by_cases h3 : a < b
      · have d3 : decide (a < b) = true := decide_eq_true h3
        have HV := hide (show lessV a b = a by unfold lessV; rw [if_pos (by omega)])
        go_enter Tryd.func52, Tryd.ntmps52
        go_wp2
        go_ret
        exact ⟨retI HV.out.symm, rfl⟩
      · have d3 : decide (a < b) = false := decide_eq_false h3
        have HV := hide (show lessV a b = b by unfold lessV; rw [if_neg (by omega)])
        go_enter Tryd.func52, Tryd.ntmps52
        go_wp2
        go_ret
        exact ⟨retI HV.out.symm, rfl⟩
    · have d2 : decide (0 ≤ a) = false := decide_eq_false h2
      have HV := hide (show lessV a b = b by unfold lessV; rw [if_neg (by omega)])
      go_enter Tryd.func52, Tryd.ntmps52
      go_wp2
      go_ret
      exact ⟨retI HV.out.symm, rfl⟩

set_option maxRecDepth 100000 in
set_option maxHeartbeats 4000000 in
theorem rcnumber_any (s : ByteArray) (w : World) (hs : s.size ≤ 9223372036854775807) : Calls Tryd.prog 39 #[.string s] w (IntGot (numV s.data.toList) w) := by
  by_cases h0 : s.size = 0
  · have d0 : ((s.size : Int) == 0) = true := by rw [h0]; rfl
    have HX := hide (show numV s.data.toList = -1 by rw [List.eq_nil_of_length_eq_zero ((lsize s).trans h0)]; rfl)
    clear h0
    go_enter Tryd.func39, Tryd.ntmps39
    go_wp2
    go_ret
    exact ⟨retI HX.out.symm, rfl⟩
  · have d0 : ((s.size : Int) == 0) = false := by rw [beq_eq_false_iff_ne]; omega
    have hne : s.data.toList ≠ [] := fun e => h0 (by rw [← lsize, e]; rfl)
    have HNE := hide hne
    clear hne
    go_enter Tryd.func39, Tryd.ntmps39
    go_wp2
    go_loop [3, 4] (fun n i => ∃ k : Nat, k ≤ s.size ∧ i = .int .i64 k ∧ n = .int .i64 ((s.data.toList.take k).foldl numStep 0) ∧ Hid ((s.data.toList.take k).all digB = true)) (fun _ i => s.size - (intOf i).toNat)
    case atStart => exact ⟨0, Nat.zero_le _, rfl, rfl, rfl⟩
    case round =>
      obtain ⟨k, hk, rfl, rfl, HA⟩ := hrel
      by_cases hlt : k < s.size
      · obtain ⟨n, hn⟩ : ∃ n, n = (s.data.toList.take k).foldl numStep 0 := ⟨_, rfl⟩
        have hbd := numFold_bd _ HA.out 0 (by omega) (by omega)
        rw [← hn] at hbd ⊢
        obtain ⟨hb0, hb1⟩ := hbd
        have HN := hide hn
        clear hn
        by_cases h1 : (s[k].toNat : Int) < 48
        · have d1 : decide ((s[k].toNat : Int) < 48) = true := decide_eq_true h1
          have HS := hide (numV_no (all_no digB s k hlt (by unfold digB; rw [decide_eq_false_iff_not]; omega)))
          go_wp2
          go_ret
          exact ⟨retI HS.out.symm, rfl⟩
        · have d1 : decide ((s[k].toNat : Int) < 48) = false := decide_eq_false h1
          by_cases h2 : 57 < (s[k].toNat : Int)
          · have d2 : decide ((s[k].toNat : Int) > 57) = true := decide_eq_true h2
            have HS := hide (numV_no (all_no digB s k hlt (by unfold digB; rw [decide_eq_false_iff_not]; omega)))
            go_wp2
            go_ret
            exact ⟨retI HS.out.symm, rfl⟩
          · have d2 : decide ((s[k].toNat : Int) > 57) = false := decide_eq_false h2
            have HS := hide (all_stepD hlt HA.out (by unfold digB; rw [decide_eq_true_eq]; omega))
            have HF := hide (show (s.data.toList.take (k + 1)).foldl numStep 0 = min (n * 10 + ((s[k].toNat : Int) - 48)) 1099511627776 by rw [take_snocS s k hlt, numFold_app, ← HN.out]; rfl)
            go_wp2_with fail
            refine (most_any _).mono ?_
            rintro e w' ⟨rfl, rfl⟩
            by_cases h3 : 1099511627776 < 10 * n + (s[k].toNat : Int) - 48
            · have d3 : decide (1099511627776 < 10 * n + (s[k].toNat : Int) - 48) = true := decide_eq_true h3
              go_wp2_with fail
              refine (most_any _).mono ?_
              rintro e w' ⟨rfl, rfl⟩
              go_wp2
              go_round
              case rel => exact ⟨k + 1, by omega, by go_num, by rw [HF.out]; exact congrArg _ (by omega), HS⟩
              case measure => simp [intOf]; omega
            · have d3 : decide (1099511627776 < 10 * n + (s[k].toNat : Int) - 48) = false := decide_eq_false h3
              go_wp2
              go_round
              case rel => exact ⟨k + 1, by omega, by go_num, by rw [HF.out]; exact congrArg _ (by omega), HS⟩
              case measure => simp [intOf]; omega
      · have hx : (s.data.toList.take k) = s.data.toList := List.take_of_length_le (by rw [lsize]; omega)
        rw [hx] at HA
        rw [hx]
        obtain ⟨n, hn⟩ : ∃ n, n = s.data.toList.foldl numStep 0 := ⟨_, rfl⟩
        have HS := hide (numV_yes HA.out HNE.out)
        rw [← hn] at HS ⊢
        clear hx hn
        go_wp2
        go_ret
        exact ⟨retI HS.out.symm, rfl⟩

end Go.Proofs.YtkkhiahdmlmecaaDoor
