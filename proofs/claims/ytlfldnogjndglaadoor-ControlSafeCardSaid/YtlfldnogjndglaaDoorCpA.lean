/-
  A directive's number: the program's walk.
-/
import Derived.Test.YtlfldnogjndglaaDoorCpO
import Derived.Test.YtlfldnogjndglaaDoorStrL
import Derived.Test.YtlfldnogjndglaaDoorGrU
namespace Go.Proofs.YtlfldnogjndglaaDoor
open Go.RowKit
set_option linter.unusedVariables false
set_option linter.unusedSimpArgs false

def numP (l : Bs) : Int := if l.all digB = true then l.foldl numStep 0 else 0
def numQ (l : Bs) : Bool := l.all digB && !l.isEmpty
def NumOk (l : Bs) (w : World) (e : Ending) (w' : World) : Prop := e = .returned (.tuple #[.int .i64 (numP l), .bool (numQ l)]) ∧ w = w'
theorem num_no {l : Bs} (h : l.all digB = false) : numP l = 0 ∧ numQ l = false := by unfold numP numQ; rw [h]; exact ⟨if_neg (by simp), rfl⟩
theorem num_yes {l : Bs} (h : l.all digB = true) : numP l = l.foldl numStep 0 ∧ numQ l = !l.isEmpty := by unfold numP numQ; rw [h]; exact ⟨if_pos rfl, Bool.true_and _⟩
theorem ret_num {a b : Int} {c d : Bool} (h : a = b) (g : c = d) : Ending.returned (.tuple #[.int .i64 a, .bool c]) = .returned (.tuple #[.int .i64 b, .bool d]) := by rw [h, g]
theorem all_stepD {s : ByteArray} {k : Nat} (h : k < s.size) (ha : (s.data.toList.take k).all digB = true) (hb : digB s[k] = true) : (s.data.toList.take (k + 1)).all digB = true := by rw [all_step digB s k h ha]; exact hb

set_option maxRecDepth 100000 in
set_option maxHeartbeats 2000000 in
theorem cnumber_any (s : ByteArray) (w : World) (hs : s.size ≤ 9223372036854775807) : Calls Tryd.prog 14 #[.string s] w (NumOk s.data.toList w) := by
  go_enter Tryd.func14, Tryd.ntmps14
  go_wp2
  go_loop [4, 5, 8] (fun n j i => ∃ k : Nat, k ≤ s.size ∧ i = .int .i64 k ∧ n = .int .i64 ((s.data.toList.take k).foldl numStep 0) ∧ Hid ((s.data.toList.take k).all digB = true)) (fun _ _ i => s.size - (intOf i).toNat)
  case atStart => exact ⟨0, Nat.zero_le _, rfl, rfl, rfl⟩
  case round =>
    obtain ⟨k, hk, rfl, rfl, HA⟩ := hrel
    by_cases hlt : k < s.size
    · obtain ⟨n, hn⟩ : ∃ n, n = (s.data.toList.take k).foldl numStep 0 := ⟨_, rfl⟩
      have hbd := numFold_bd _ HA.out 0 (by omega) (by omega)
      rw [← hn] at hbd ⊢
      obtain ⟨hb0, hb1⟩ := hbd
      have HN := hide hn
      clear hn
      by_cases h1 : (s[k].toNat : Int) < 48
      · have d1 : decide ((s[k].toNat : Int) < 48) = true := decide_eq_true h1
        have HS := hide (num_no (all_no digB s k hlt (by unfold digB; rw [decide_eq_false_iff_not]; omega)))
        go_wp2
        go_ret2
        exact ⟨ret_num HS.out.1.symm HS.out.2.symm, rfl⟩
      · have d1 : decide ((s[k].toNat : Int) < 48) = false := decide_eq_false h1
        by_cases h2 : 57 < (s[k].toNat : Int)
        · have d2 : decide ((s[k].toNat : Int) > 57) = true := decide_eq_true h2
          have HS := hide (num_no (all_no digB s k hlt (by unfold digB; rw [decide_eq_false_iff_not]; omega)))
          go_wp2
          go_ret2
          exact ⟨ret_num HS.out.1.symm HS.out.2.symm, rfl⟩
        · have d2 : decide ((s[k].toNat : Int) > 57) = false := decide_eq_false h2
          have HS := hide (all_stepD hlt HA.out (by unfold digB; rw [decide_eq_true_eq]; omega))
          have HF := hide (show (s.data.toList.take (k + 1)).foldl numStep 0 = min (n * 10 + ((s[k].toNat : Int) - 48)) 1099511627776 by rw [take_snocS s k hlt, numFold_app, ← HN.out]; rfl)
          go_wp2
          go_round
          case rel => exact ⟨k + 1, by omega, by go_num, by rw [HF.out]; exact congrArg _ (by split <;> omega), HS⟩
          case measure => simp [intOf]; omega
    · have hx : (s.data.toList.take k) = s.data.toList := List.take_of_length_le (by rw [lsize]; omega)
      rw [hx] at HA
      rw [hx]
      obtain ⟨n, hn⟩ : ∃ n, n = s.data.toList.foldl numStep 0 := ⟨_, rfl⟩
      have HS := hide (num_yes HA.out)
      rw [← hn] at HS ⊢
      clear hx hn
      go_wp2
      go_ret2
      exact ⟨ret_num HS.out.1.symm (by rw [HS.out.2, ByteArray.toList_eq]), rfl⟩

end Go.Proofs.YtlfldnogjndglaaDoor
