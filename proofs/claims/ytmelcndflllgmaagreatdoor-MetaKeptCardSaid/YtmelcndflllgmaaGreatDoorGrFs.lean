/-
  Merged: FrwA, FrwW, FrwB.
-/
import Derived.Test.YtmelcndflllgmaaGreatDoorGrFr
import Derived.Test.YtmelcndflllgmaaGreatDoorGrCp
import Derived.Test.YtmelcndflllgmaaGreatDoorGrF
import Derived.Shelf.Strings.FieldsFuncAny
import Derived.Test.YtmelcndflllgmaaGreatDoorBut
import Derived.Deep.DeepCutAuto
namespace Go.Proofs.YtmelcndflllgmaaGreatDoor
open Go.RowKit
set_option linter.unusedVariables false
set_option linter.unusedSimpArgs false

def foldZ (l : Bs) : Int := l.foldl (fun (n : Int) (b : UInt8) => n * 10 + ((b.toNat : Int) - 48)) 0
theorem foldZ_app (l : Bs) (b : UInt8) : foldZ (l ++ [b]) = foldZ l * 10 + ((b.toNat : Int) - 48) := by unfold foldZ; rw [List.foldl_append]; rfl
theorem foldZ_lt {l : Bs} (h : l.all digB = true) (hl : l.length ≤ 18) : 0 ≤ foldZ l ∧ foldZ l < 1000000000000000000 := foldZ_in l h hl
theorem foldZ_lt17 {l : Bs} (h : l.all digB = true) (hl : l.length ≤ 17) : 0 ≤ foldZ l ∧ foldZ l < 100000000000000000 := by
  have := foldZ_bd l 0 0 h (by omega) (by decide)
  have h2 : (10 : Int) ^ (0 + l.length) ≤ 10 ^ 17 := by
    have : 0 + l.length ≤ 17 := by omega
    exact_mod_cast Nat.pow_le_pow_right (by omega) this
  have h3 : (10 : Int) ^ 17 = 100000000000000000 := by decide
  unfold foldZ
  omega
/-- A number's answer. -/
def NumZOk (l : Bs) (w : World) (e : Ending) (w' : World) : Prop := e = .returned (.tuple #[.int .i64 (if numZ l < 0 then 0 else numZ l), .bool (decide (0 ≤ numZ l))]) ∧ w = w'
theorem ret_numz {a b : Int} {c d : Bool} (h : a = b) (g : c = d) : Ending.returned (.tuple #[.int .i64 a, .bool c]) = .returned (.tuple #[.int .i64 b, .bool d]) := by rw [h, g]
theorem numZ_no {l : Bs} (h : ¬ ((1 ≤ l.length ∧ l.length ≤ 18 ∧ ¬ (l.head? = some 48 ∧ 1 < l.length)) ∧ l.all digB = true)) : 0 = (if numZ l < 0 then 0 else numZ l) ∧ false = decide (0 ≤ numZ l) := by
  unfold numZ; rw [if_neg h]; exact ⟨rfl, rfl⟩
theorem numZ_yes {l : Bs} (h : (1 ≤ l.length ∧ l.length ≤ 18 ∧ ¬ (l.head? = some 48 ∧ 1 < l.length)) ∧ l.all digB = true) : foldZ l = (if numZ l < 0 then 0 else numZ l) ∧ true = decide (0 ≤ numZ l) := by
  have hb := foldZ_lt h.2 h.1.2.1
  have e : numZ l = foldZ l := by unfold numZ; rw [if_pos h]; rfl
  rw [e]
  exact ⟨by rw [if_neg (by omega)], by rw [decide_eq_true hb.1]⟩

set_option maxRecDepth 100000 in
set_option maxHeartbeats 4000000 in
theorem cnumz_any (s : ByteArray) (w : World) (hs : s.size ≤ 9223372036854775807) : Calls Tryz.prog 63 #[.string s] w (NumZOk s.data.toList w) := by
  by_cases h0 : s.size = 0
  · have dz : decide ((s.size : Int) < 1) = true := decide_eq_true (by omega)
    have dy : ((s.size : Int) == 0) = true := by rw [beq_iff_eq]; omega
    have HS := hide (numZ_no (l := s.data.toList) (fun hh => by have := hh.1.1; rw [lsize] at this; omega))
    go_enter Tryz.func63, Tryz.ntmps63
    go_wp2
    go_ret2
    exact ⟨ret_numz HS.out.1 HS.out.2, rfl⟩
  · have dz : decide ((s.size : Int) < 1) = false := decide_eq_false (by omega)
    have dy : ((s.size : Int) == 0) = false := by rw [beq_eq_false_iff_ne]; omega
    by_cases h18 : 18 < s.size
    · have d18 : decide ((s.size : Int) > 18) = true := decide_eq_true (by omega)
      have HS := hide (numZ_no (l := s.data.toList) (fun hh => by have := hh.1.2.1; rw [lsize] at this; omega))
      go_enter Tryz.func63, Tryz.ntmps63
      go_wp2
      go_ret2
      exact ⟨ret_numz HS.out.1 HS.out.2, rfl⟩
    · have d18 : decide ((s.size : Int) > 18) = false := decide_eq_false (by omega)
      have hlt0 : 0 < s.size := by omega
      have hg0 : (0 : Int) < (s.size : Int) := by omega
      have hh0 : s.data.toList.head? = some s[0] := by rw [List.head?_eq_getElem?, List.getElem?_eq_getElem (by rw [lsize]; exact hlt0)]; rfl
      by_cases h48 : (s[0].toNat : Int) = 48
      · have e48 : ((s[0].toNat : Int) == 48) = true := by rw [beq_iff_eq]; exact h48
        have hs48 : s[0] = 48 := byte_eq (c := 48) e48
        by_cases h1s : 1 < s.size
        · have d1s : decide ((s.size : Int) > 1) = true := decide_eq_true (by omega)
          have HH := hide hh0
          have H48 := hide hs48
          clear h48 hh0 hs48
          have HS := hide (numZ_no (l := s.data.toList) (fun hh => by exact hh.1.2.2 ⟨by rw [HH.out, H48.out], by rw [lsize]; exact h1s⟩))
          go_enter Tryz.func63, Tryz.ntmps63
          go_wp2
          go_ret2
          exact ⟨ret_numz HS.out.1 HS.out.2, rfl⟩
        · have d1s : decide ((s.size : Int) > 1) = false := decide_eq_false (by omega)
          have HC := hide (show 1 ≤ s.data.toList.length ∧ s.data.toList.length ≤ 18 ∧ ¬ (s.data.toList.head? = some 48 ∧ 1 < s.data.toList.length) by rw [lsize]; exact ⟨by omega, by omega, fun hh => h1s hh.2⟩)
          clear h48 hh0 hs48
          go_enter Tryz.func63, Tryz.ntmps63
          go_wp2
          clear e48
          go_loop [4, 5, 26] (fun n j i => ∃ k : Nat, k ≤ s.size ∧ i = .int .i64 k ∧ n = .int .i64 (foldZ (s.data.toList.take k)) ∧ Hid ((s.data.toList.take k).all digB = true)) (fun _ _ i => s.size - (intOf i).toNat)
          case atStart => exact ⟨0, Nat.zero_le _, rfl, rfl, rfl⟩
          case round =>
            obtain ⟨k, hk, rfl, rfl, HA⟩ := hrel
            by_cases hlt : k < s.size
            · obtain ⟨n, hn⟩ : ∃ n, n = foldZ (s.data.toList.take k) := ⟨_, rfl⟩
              have hbd := foldZ_lt17 HA.out (by rw [List.length_take, lsize]; omega)
              rw [← hn] at hbd ⊢
              obtain ⟨hb0, hb1⟩ := hbd
              have HN := hide hn
              clear hn
              by_cases h1 : (s[k].toNat : Int) < 48
              · have d1 : decide ((s[k].toNat : Int) < 48) = true := decide_eq_true h1
                have HS := hide (numZ_no (l := s.data.toList) (fun hh => by have := all_no digB s k hlt (by unfold digB; rw [decide_eq_false_iff_not]; omega); rw [hh.2] at this; cases this))
                go_wp2
                go_ret2
                exact ⟨ret_numz HS.out.1 HS.out.2, rfl⟩
              · have d1 : decide ((s[k].toNat : Int) < 48) = false := decide_eq_false h1
                by_cases h2 : 57 < (s[k].toNat : Int)
                · have d2 : decide ((s[k].toNat : Int) > 57) = true := decide_eq_true h2
                  have HS := hide (numZ_no (l := s.data.toList) (fun hh => by have := all_no digB s k hlt (by unfold digB; rw [decide_eq_false_iff_not]; omega); rw [hh.2] at this; cases this))
                  go_wp2
                  go_ret2
                  exact ⟨ret_numz HS.out.1 HS.out.2, rfl⟩
                · have d2 : decide ((s[k].toNat : Int) > 57) = false := decide_eq_false h2
                  have HS := hide (all_stepD hlt HA.out (by unfold digB; rw [decide_eq_true_eq]; omega))
                  have HF := hide (show foldZ (s.data.toList.take (k + 1)) = n * 10 + ((s[k].toNat : Int) - 48) by rw [take_snocS s k hlt, foldZ_app, ← HN.out])
                  go_wp2
                  go_round
                  case rel => exact ⟨k + 1, by omega, by go_num, (by rw [HF.out]; try exact congrArg _ (by omega)), HS⟩
                  case measure => simp [intOf]; omega
            · have hx : (s.data.toList.take k) = s.data.toList := List.take_of_length_le (by rw [lsize]; omega)
              rw [hx] at HA
              rw [hx]
              have HS := hide (numZ_yes ⟨HC.out, HA.out⟩)
              obtain ⟨n, hn⟩ : ∃ n, n = foldZ s.data.toList := ⟨_, rfl⟩
              rw [← hn] at HS ⊢
              clear hx hn
              go_wp2
              go_ret2
              exact ⟨ret_numz HS.out.1 HS.out.2, rfl⟩
      · have e48 : ((s[0].toNat : Int) == 48) = false := by rw [beq_eq_false_iff_ne]; exact h48
        have HC := hide (show 1 ≤ s.data.toList.length ∧ s.data.toList.length ≤ 18 ∧ ¬ (s.data.toList.head? = some 48 ∧ 1 < s.data.toList.length) by rw [lsize]; exact ⟨by omega, by omega, fun hh => by rw [hh0] at hh; exact byte_ne (c := 48) e48 (Option.some.inj hh.1)⟩)
        clear h48 hh0
        go_enter Tryz.func63, Tryz.ntmps63
        go_wp2
        clear e48
        go_loop [4, 5, 26] (fun n j i => ∃ k : Nat, k ≤ s.size ∧ i = .int .i64 k ∧ n = .int .i64 (foldZ (s.data.toList.take k)) ∧ Hid ((s.data.toList.take k).all digB = true)) (fun _ _ i => s.size - (intOf i).toNat)
        case atStart => exact ⟨0, Nat.zero_le _, rfl, rfl, rfl⟩
        case round =>
          obtain ⟨k, hk, rfl, rfl, HA⟩ := hrel
          by_cases hlt : k < s.size
          · obtain ⟨n, hn⟩ : ∃ n, n = foldZ (s.data.toList.take k) := ⟨_, rfl⟩
            have hbd := foldZ_lt17 HA.out (by rw [List.length_take, lsize]; omega)
            rw [← hn] at hbd ⊢
            obtain ⟨hb0, hb1⟩ := hbd
            have HN := hide hn
            clear hn
            by_cases h1 : (s[k].toNat : Int) < 48
            · have d1 : decide ((s[k].toNat : Int) < 48) = true := decide_eq_true h1
              have HS := hide (numZ_no (l := s.data.toList) (fun hh => by have := all_no digB s k hlt (by unfold digB; rw [decide_eq_false_iff_not]; omega); rw [hh.2] at this; cases this))
              go_wp2
              go_ret2
              exact ⟨ret_numz HS.out.1 HS.out.2, rfl⟩
            · have d1 : decide ((s[k].toNat : Int) < 48) = false := decide_eq_false h1
              by_cases h2 : 57 < (s[k].toNat : Int)
              · have d2 : decide ((s[k].toNat : Int) > 57) = true := decide_eq_true h2
                have HS := hide (numZ_no (l := s.data.toList) (fun hh => by have := all_no digB s k hlt (by unfold digB; rw [decide_eq_false_iff_not]; omega); rw [hh.2] at this; cases this))
                go_wp2
                go_ret2
                exact ⟨ret_numz HS.out.1 HS.out.2, rfl⟩
              · have d2 : decide ((s[k].toNat : Int) > 57) = false := decide_eq_false h2
                have HS := hide (all_stepD hlt HA.out (by unfold digB; rw [decide_eq_true_eq]; omega))
                have HF := hide (show foldZ (s.data.toList.take (k + 1)) = n * 10 + ((s[k].toNat : Int) - 48) by rw [take_snocS s k hlt, foldZ_app, ← HN.out])
                go_wp2
                go_round
                case rel => exact ⟨k + 1, by omega, by go_num, (by rw [HF.out]; try exact congrArg _ (by omega)), HS⟩
                case measure => simp [intOf]; omega
          · have hx : (s.data.toList.take k) = s.data.toList := List.take_of_length_le (by rw [lsize]; omega)
            rw [hx] at HA
            rw [hx]
            have HS := hide (numZ_yes ⟨HC.out, HA.out⟩)
            obtain ⟨n, hn⟩ : ∃ n, n = foldZ s.data.toList := ⟨_, rfl⟩
            rw [← hn] at HS ⊢
            clear hx hn
            go_wp2
            go_ret2
            exact ⟨ret_numz HS.out.1 HS.out.2, rfl⟩

set_option maxRecDepth 100000 in
set_option maxHeartbeats 4000000 in
theorem rnumz_any (s : ByteArray) (w : World) (hs : s.size ≤ 9223372036854775807) : Calls Tryz.prog 77 #[.string s] w (NumZOk s.data.toList w) := by
  by_cases h0 : s.size = 0
  · have dz : decide ((s.size : Int) < 1) = true := decide_eq_true (by omega)
    have dy : ((s.size : Int) == 0) = true := by rw [beq_iff_eq]; omega
    have HS := hide (numZ_no (l := s.data.toList) (fun hh => by have := hh.1.1; rw [lsize] at this; omega))
    go_enter Tryz.func77, Tryz.ntmps77
    go_wp2
    go_ret2
    exact ⟨ret_numz HS.out.1 HS.out.2, rfl⟩
  · have dz : decide ((s.size : Int) < 1) = false := decide_eq_false (by omega)
    have dy : ((s.size : Int) == 0) = false := by rw [beq_eq_false_iff_ne]; omega
    by_cases h18 : 18 < s.size
    · have d18 : decide ((s.size : Int) > 18) = true := decide_eq_true (by omega)
      have HS := hide (numZ_no (l := s.data.toList) (fun hh => by have := hh.1.2.1; rw [lsize] at this; omega))
      go_enter Tryz.func77, Tryz.ntmps77
      go_wp2
      go_ret2
      exact ⟨ret_numz HS.out.1 HS.out.2, rfl⟩
    · have d18 : decide ((s.size : Int) > 18) = false := decide_eq_false (by omega)
      have hlt0 : 0 < s.size := by omega
      have hg0 : (0 : Int) < (s.size : Int) := by omega
      have hh0 : s.data.toList.head? = some s[0] := by rw [List.head?_eq_getElem?, List.getElem?_eq_getElem (by rw [lsize]; exact hlt0)]; rfl
      by_cases h48 : (s[0].toNat : Int) = 48
      · have e48 : ((s[0].toNat : Int) == 48) = true := by rw [beq_iff_eq]; exact h48
        have hs48 : s[0] = 48 := byte_eq (c := 48) e48
        by_cases h1s : 1 < s.size
        · have d1s : decide ((s.size : Int) > 1) = true := decide_eq_true (by omega)
          have HH := hide hh0
          have H48 := hide hs48
          clear h48 hh0 hs48
          have HS := hide (numZ_no (l := s.data.toList) (fun hh => by exact hh.1.2.2 ⟨by rw [HH.out, H48.out], by rw [lsize]; exact h1s⟩))
          go_enter Tryz.func77, Tryz.ntmps77
          go_wp2
          go_ret2
          exact ⟨ret_numz HS.out.1 HS.out.2, rfl⟩
        · have d1s : decide ((s.size : Int) > 1) = false := decide_eq_false (by omega)
          have HC := hide (show 1 ≤ s.data.toList.length ∧ s.data.toList.length ≤ 18 ∧ ¬ (s.data.toList.head? = some 48 ∧ 1 < s.data.toList.length) by rw [lsize]; exact ⟨by omega, by omega, fun hh => h1s hh.2⟩)
          clear h48 hh0 hs48
          go_enter Tryz.func77, Tryz.ntmps77
          go_wp2
          clear e48
          go_loop [4, 5] (fun n i => ∃ k : Nat, k ≤ s.size ∧ i = .int .i64 k ∧ n = .int .i64 (foldZ (s.data.toList.take k)) ∧ Hid ((s.data.toList.take k).all digB = true)) (fun _ i => s.size - (intOf i).toNat)
          case atStart => exact ⟨0, Nat.zero_le _, rfl, rfl, rfl⟩
          case round =>
            obtain ⟨k, hk, rfl, rfl, HA⟩ := hrel
            by_cases hlt : k < s.size
            · obtain ⟨n, hn⟩ : ∃ n, n = foldZ (s.data.toList.take k) := ⟨_, rfl⟩
              have hbd := foldZ_lt17 HA.out (by rw [List.length_take, lsize]; omega)
              rw [← hn] at hbd ⊢
              obtain ⟨hb0, hb1⟩ := hbd
              have HN := hide hn
              clear hn
              by_cases h1 : (s[k].toNat : Int) < 48
              · have d1 : decide ((s[k].toNat : Int) < 48) = true := decide_eq_true h1
                have HS := hide (numZ_no (l := s.data.toList) (fun hh => by have := all_no digB s k hlt (by unfold digB; rw [decide_eq_false_iff_not]; omega); rw [hh.2] at this; cases this))
                go_wp2
                go_ret2
                exact ⟨ret_numz HS.out.1 HS.out.2, rfl⟩
              · have d1 : decide ((s[k].toNat : Int) < 48) = false := decide_eq_false h1
                by_cases h2 : 57 < (s[k].toNat : Int)
                · have d2 : decide ((s[k].toNat : Int) > 57) = true := decide_eq_true h2
                  have HS := hide (numZ_no (l := s.data.toList) (fun hh => by have := all_no digB s k hlt (by unfold digB; rw [decide_eq_false_iff_not]; omega); rw [hh.2] at this; cases this))
                  go_wp2
                  go_ret2
                  exact ⟨ret_numz HS.out.1 HS.out.2, rfl⟩
                · have d2 : decide ((s[k].toNat : Int) > 57) = false := decide_eq_false h2
                  have HS := hide (all_stepD hlt HA.out (by unfold digB; rw [decide_eq_true_eq]; omega))
                  have HF := hide (show foldZ (s.data.toList.take (k + 1)) = n * 10 + ((s[k].toNat : Int) - 48) by rw [take_snocS s k hlt, foldZ_app, ← HN.out])
                  go_wp2
                  go_round
                  case rel => exact ⟨k + 1, by omega, by go_num, (by rw [HF.out]; try exact congrArg _ (by omega)), HS⟩
                  case measure => simp [intOf]; omega
            · have hx : (s.data.toList.take k) = s.data.toList := List.take_of_length_le (by rw [lsize]; omega)
              rw [hx] at HA
              rw [hx]
              have HS := hide (numZ_yes ⟨HC.out, HA.out⟩)
              obtain ⟨n, hn⟩ : ∃ n, n = foldZ s.data.toList := ⟨_, rfl⟩
              rw [← hn] at HS ⊢
              clear hx hn
              go_wp2
              go_ret2
              exact ⟨ret_numz HS.out.1 HS.out.2, rfl⟩
      · have e48 : ((s[0].toNat : Int) == 48) = false := by rw [beq_eq_false_iff_ne]; exact h48
        have HC := hide (show 1 ≤ s.data.toList.length ∧ s.data.toList.length ≤ 18 ∧ ¬ (s.data.toList.head? = some 48 ∧ 1 < s.data.toList.length) by rw [lsize]; exact ⟨by omega, by omega, fun hh => by rw [hh0] at hh; exact byte_ne (c := 48) e48 (Option.some.inj hh.1)⟩)
        clear h48 hh0
        go_enter Tryz.func77, Tryz.ntmps77
        go_wp2
        clear e48
        go_loop [4, 5] (fun n i => ∃ k : Nat, k ≤ s.size ∧ i = .int .i64 k ∧ n = .int .i64 (foldZ (s.data.toList.take k)) ∧ Hid ((s.data.toList.take k).all digB = true)) (fun _ i => s.size - (intOf i).toNat)
        case atStart => exact ⟨0, Nat.zero_le _, rfl, rfl, rfl⟩
        case round =>
          obtain ⟨k, hk, rfl, rfl, HA⟩ := hrel
          by_cases hlt : k < s.size
          · obtain ⟨n, hn⟩ : ∃ n, n = foldZ (s.data.toList.take k) := ⟨_, rfl⟩
            have hbd := foldZ_lt17 HA.out (by rw [List.length_take, lsize]; omega)
            rw [← hn] at hbd ⊢
            obtain ⟨hb0, hb1⟩ := hbd
            have HN := hide hn
            clear hn
            by_cases h1 : (s[k].toNat : Int) < 48
            · have d1 : decide ((s[k].toNat : Int) < 48) = true := decide_eq_true h1
              have HS := hide (numZ_no (l := s.data.toList) (fun hh => by have := all_no digB s k hlt (by unfold digB; rw [decide_eq_false_iff_not]; omega); rw [hh.2] at this; cases this))
              go_wp2
              go_ret2
              exact ⟨ret_numz HS.out.1 HS.out.2, rfl⟩
            · have d1 : decide ((s[k].toNat : Int) < 48) = false := decide_eq_false h1
              by_cases h2 : 57 < (s[k].toNat : Int)
              · have d2 : decide ((s[k].toNat : Int) > 57) = true := decide_eq_true h2
                have HS := hide (numZ_no (l := s.data.toList) (fun hh => by have := all_no digB s k hlt (by unfold digB; rw [decide_eq_false_iff_not]; omega); rw [hh.2] at this; cases this))
                go_wp2
                go_ret2
                exact ⟨ret_numz HS.out.1 HS.out.2, rfl⟩
              · have d2 : decide ((s[k].toNat : Int) > 57) = false := decide_eq_false h2
                have HS := hide (all_stepD hlt HA.out (by unfold digB; rw [decide_eq_true_eq]; omega))
                have HF := hide (show foldZ (s.data.toList.take (k + 1)) = n * 10 + ((s[k].toNat : Int) - 48) by rw [take_snocS s k hlt, foldZ_app, ← HN.out])
                go_wp2
                go_round
                case rel => exact ⟨k + 1, by omega, by go_num, (by rw [HF.out]; try exact congrArg _ (by omega)), HS⟩
                case measure => simp [intOf]; omega
          · have hx : (s.data.toList.take k) = s.data.toList := List.take_of_length_le (by rw [lsize]; omega)
            rw [hx] at HA
            rw [hx]
            have HS := hide (numZ_yes ⟨HC.out, HA.out⟩)
            obtain ⟨n, hn⟩ : ∃ n, n = foldZ s.data.toList := ⟨_, rfl⟩
            rw [← hn] at HS ⊢
            clear hx hn
            go_wp2
            go_ret2
            exact ⟨ret_numz HS.out.1 HS.out.2, rfl⟩

end Go.Proofs.YtmelcndflllgmaaGreatDoor
namespace Go.Proofs.YtmelcndflllgmaaGreatDoor
open Go.RowKit
set_option linter.unusedVariables false
set_option linter.unusedSimpArgs false

set_option maxRecDepth 100000 in
set_option maxHeartbeats 1000000 in
theorem pred_any (x : Nat) (w : World) (hx : x ≤ 1114111) : Calls Tryz.prog 25 #[.int .i32 (x : Int)] w fun e w' => e = .returned (.bool (isBl x)) ∧ w = w' := by
  by_cases h1 : x = 32
  · have d1 : ((x : Int) == 32) = true := by rw [beq_iff_eq]; omega
    have HX := hide (show isBl x = true by unfold isBl; rw [h1]; rfl)
    clear h1
    go_enter Tryz.func25, Tryz.ntmps25
    go_wp2_with fail
    go_ret
    exact ⟨ret_bool HX.out.symm, rfl⟩
  · have d1 : ((x : Int) == 32) = false := by rw [beq_eq_false_iff_ne]; omega
    by_cases h2 : x = 9
    · have d2 : ((x : Int) == 9) = true := by rw [beq_iff_eq]; omega
      have HX := hide (show isBl x = true by unfold isBl; rw [h2]; rfl)
      clear h1 h2
      go_enter Tryz.func25, Tryz.ntmps25
      go_wp2_with fail
      go_ret
      exact ⟨ret_bool HX.out.symm, rfl⟩
    · have d2 : ((x : Int) == 9) = false := by rw [beq_eq_false_iff_ne]; omega
      have HX := hide (show isBl x = false by unfold isBl; rw [beq_eq_false_iff_ne.2 h1, beq_eq_false_iff_ne.2 h2]; rfl)
      clear h1 h2
      go_enter Tryz.func25, Tryz.ntmps25
      go_wp2_with fail
      go_ret
      exact ⟨ret_bool HX.out.symm, rfl⟩

theorem words_len : ∀ (l cur : Bs), (wordsR cur l).length ≤ l.length + 1 ∧ ∀ x ∈ wordsR cur l, x.length ≤ cur.length + l.length
  | [], cur => by
    unfold wordsR keepW
    split
    · simp
    · simp
  | b :: r, cur => by
    unfold wordsR
    split
    · have h1 := words_len r []
      have h2 : (keepW cur).length ≤ 1 ∧ ∀ x ∈ keepW cur, x.length ≤ cur.length := by unfold keepW; split <;> simp
      refine ⟨by rw [List.length_append, List.length_cons]; omega, fun x hx => ?_⟩
      rw [List.length_cons]
      rcases List.mem_append.1 hx with h | h
      · have := h2.2 x h; omega
      · have := h1.2 x h; simp at this; omega
    · have h1 := words_len r (cur ++ [b])
      refine ⟨by rw [List.length_cons]; omega, fun x hx => ?_⟩
      have := h1.2 x hx
      rw [List.length_append, List.length_singleton] at this
      rw [List.length_cons]; omega

set_option maxRecDepth 100000 in
set_option maxHeartbeats 4000000 in
theorem cwords_any (s : ByteArray) (w : World) (hs : s.size ≤ 1000000) : Calls Tryz.prog 24 #[.string s, .func (.func 25) #[] #[]] w (StrsOk (wordsB s.data.toList) w) := by
  refine (Any.strings_FieldsFunc_runes lays229 25 #[] (enters_of Tryz.func25 (by kernel_rfl) rfl) isBl s w (by omega) (fun W x hx _ => (pred_any x W hx).mono fun e w' h => ⟨h.1, 0, by rw [← h.2]; rfl⟩) (by kernel_rfl) (by kernel_rfl)).mono ?_
  rintro e w' ⟨A, rfl, hA, ho, hb⟩
  have hm : (Lib.goFieldsP isBl s).map Value.string = (wordsB s.data.toList).flatMap LW.enc := by
    rw [← fields_words, List.flatMap_map]
    induction Lib.goFieldsP isBl s with
    | nil => rfl
    | cons x l ih => rw [List.map_cons, List.flatMap_cons, ih]; simp [LW]
  have hl : (Lib.goFieldsP isBl s).length = (wordsB s.data.toList).length := by rw [← fields_words, List.length_map]
  rw [hm, hl] at ho
  exact ⟨_, rfl, by rw [hl]; exact ho, hb⟩

theorem words_at {s : Bs} {a k : Nat} (ha : a ≤ k) (hk : k < s.length) (hb : blankB s[k] = true) : wordsR ((s.take k).drop a) (s.drop k) = keepW ((s.take k).drop a) ++ wordsR ((s.take (k + 1)).drop (k + 1)) (s.drop (k + 1)) := by
  rw [List.drop_eq_getElem_cons hk, wordsR, if_pos hb, show (s.take (k + 1)).drop (k + 1) = [] from List.drop_eq_nil_iff.2 (by rw [List.length_take]; omega)]
theorem words_on {s : Bs} {a k : Nat} (ha : a ≤ k) (hk : k < s.length) (hb : blankB s[k] = false) : wordsR ((s.take k).drop a) (s.drop k) = wordsR ((s.take (k + 1)).drop a) (s.drop (k + 1)) := by
  rw [List.drop_eq_getElem_cons hk, wordsR, hb]
  simp only [Bool.false_eq_true, if_false]
  rw [List.take_succ_eq_append_getElem hk, List.drop_append_of_le_length (by rw [List.length_take]; omega)]
theorem words_end {s : Bs} {a k : Nat} (hk : s.length ≤ k) : wordsR ((s.take k).drop a) (s.drop k) = keepW ((s.take k).drop a) := by
  rw [List.drop_of_length_le hk, wordsR]
theorem keepW_some {x : Bs} (h : 0 < x.length) : keepW x = [x] := by unfold keepW; rw [if_neg (by rw [List.isEmpty_iff]; intro e; rw [e] at h; simp at h)]
theorem seg_len {s : Bs} {a k : Nat} (hk : k ≤ s.length) : ((s.take k).drop a).length = k - a := by rw [List.length_drop, List.length_take]; omega

set_option maxRecDepth 100000 in
set_option maxHeartbeats 8000000 in
theorem rwords_any (s : ByteArray) (w : World) (hs : s.size ≤ 1000000) : Calls Tryz.prog 35 #[.string s] w (StrsOk (wordsB s.data.toList) w) := by
  have hsl := lsize s
  go_enter Tryz.func35, Tryz.ntmps35
  go_wp2_with fail
  go_loopw [3, 4, 5] (fun c3 c4 c5 wr => ∃ (k a : Nat) (out : List Bs) (V : Value), k ≤ s.size + 1 ∧ a ≤ k ∧ c5 = .int .i64 (k : Int) ∧ c4 = .int .i64 (a : Int) ∧ V = c3 ∧ out.length ≤ k ∧ Hid (if k ≤ s.size then out ++ wordsR ((s.data.toList.take k).drop a) (s.data.toList.drop k) = wordsB s.data.toList else out = wordsB s.data.toList) ∧ Hid (OwnL LW w.heap.size wr V out) ∧ Below w.heap.size w wr) (fun _ _ c5 _ => s.size + 1 - (intOf c5).toNat)
  case atStart => exact ⟨0, 0, [], _, Nat.zero_le _, Nat.le_refl _, rfl, rfl, rfl, Nat.zero_le _, (show (if 0 ≤ s.size then _ else _) by rw [if_pos (Nat.zero_le _)]; rfl), OwnL.nil _ _ _, Below.refl _ _⟩
  case round =>
    obtain ⟨k, a, out, V, hk, hak0, rfl, rfl, rfl, hol, HI, HO, hb⟩ := hrel
    by_cases hle : k ≤ s.size
    · have dle : decide ((k : Int) ≤ (s.size : Int)) = true := decide_eq_true (by omega)
      have hI := HI.out
      rw [if_pos hle] at hI
      have HI2 := hide hI
      clear hI HI
      by_cases hlt : k < s.size
      · have hne : ((k : Int) == (s.size : Int)) = false := by rw [beq_eq_false_iff_ne]; omega
        have hl : k < s.data.toList.length := by rw [lsize]; exact hlt
        have hg1 : (0 : Int) ≤ (k : Int) := by omega
        have hg2 : (k : Int) < (s.size : Int) := by omega
        have g1 := fun (h : blankB s.data.toList[k] = true) => (show (if k + 1 ≤ s.size then (out ++ keepW ((s.data.toList.take k).drop a)) ++ wordsR ((s.data.toList.take (k + 1)).drop (k + 1)) (s.data.toList.drop (k + 1)) = wordsB s.data.toList else out ++ keepW ((s.data.toList.take k).drop a) = wordsB s.data.toList) by rw [if_pos (by omega), List.append_assoc, ← words_at hak0 hl h]; exact HI2.out)
        have g0 := fun (h : blankB s.data.toList[k] = false) => (show (if k + 1 ≤ s.size then out ++ wordsR ((s.data.toList.take (k + 1)).drop a) (s.data.toList.drop (k + 1)) = wordsB s.data.toList else out = wordsB s.data.toList) by rw [if_pos (by omega), ← words_on hak0 hl h]; exact HI2.out)
        cases e32 : ((s[k].toNat : Int) == 32)
        · cases e9 : ((s[k].toNat : Int) == 9)
          · have hbl : blankB s.data.toList[k] = false := by
              have e1 : s[k] ≠ 32 := byte_ne (c := 32) e32
              have e2 : s[k] ≠ 9 := byte_ne (c := 9) e9
              show blankB s[k] = false
              unfold blankB; simp [e1, e2]
            have HE := hide (g0 hbl)
            clear g0 g1 hbl
            go_wp2_with fail
            go_roundw
            case rel => exact ⟨k + 1, a, out, V, by omega, by omega, by go_num, rfl, rfl, by omega, HE, HO, hb⟩
            case measure => simp [intOf] <;> omega
          · have hbl : blankB s.data.toList[k] = true := by
              have e2 : s[k] = 9 := byte_eq (c := 9) e9
              show blankB s[k] = true
              rw [e2]; rfl
            have g1 := g1 hbl
            clear g0 hbl
            by_cases hak : a < k
            · have hgt : decide ((k : Int) > (a : Int)) = true := decide_eq_true (by omega)
              obtain ⟨u, hu⟩ : ∃ u : ByteArray, u = s.extract a k := ⟨_, rfl⟩
              have hul : u.data.toList = (s.data.toList.take k).drop a := by rw [hu, Lib.extract_data, List.drop_take]
              have HE := hide (show (if k + 1 ≤ s.size then (out ++ [u.data.toList]) ++ wordsR ((s.data.toList.take (k + 1)).drop (k + 1)) (s.data.toList.drop (k + 1)) = wordsB s.data.toList else out ++ [u.data.toList] = wordsB s.data.toList) by rw [keepW_some (by rw [seg_len (by omega)]; omega), ← hul] at g1; exact g1)
              have HU := hide hu
              have hO5 := HO.out
              obtain ⟨A5, k5, hv5, _, _⟩ := hO5.rd.form
              subst hv5
              have hz2 := hb.size
              have R5 : RdL LW (wr.alloc (.cells #[.string u] 9)) (wr.heap.size + 1) (.slice (some ⟨wr.heap.size, 0, none⟩) 1 1) [u.data.toList] := by
                have := RdL.one_ (L := LW) (x := u.data.toList) (Blk.new wr 9 #[.string u]) (by simp [LW])
                simpa using this
              have HO5 := hide hO5
              clear hO5 HO hul hu
              have hai : (a : Int) ≤ (k : Int) := by omega
              have hks : (k : Int) ≤ (s.size : Int) := by omega
              go_wp2_with (first | (at_builtin; rw [← HU.out]; refine wpList_appL LW w (by rfl) (.tmp 31) (.tmp 36) _ _ (by rfl) rfl rfl w.heap.size _ _ (by rfl) (HO5.out.alloc _) (hb.alloc hb.size _) (by simp; omega) _ [u.data.toList] _ (by rfl) R5 (by decide) (by simp; omega) ?_) | (at_builtin; refine wpList_appL LW w (by rfl) (.tmp 31) (.tmp 36) _ _ (by rfl) rfl rfl w.heap.size _ _ (by rfl) (HO5.out.alloc _) (hb.alloc hb.size _) (by simp; omega) _ [u.data.toList] _ (by rfl) (HU.out ▸ R5) (by decide) (by simp; omega) ?_))
              intro v7 w7 O7 hB7 _ _
              have HO7 := hide O7
              clear O7 R5 HO5
              go_wp2_with fail
              go_roundw
              case rel => exact ⟨k + 1, k + 1, _, _, by omega, Nat.le_refl _, by go_num, by go_num, rfl, by simp; omega, HE, HO7, hB7⟩
              case measure => simp [intOf] <;> omega
            · have hgt : decide ((k : Int) > (a : Int)) = false := decide_eq_false (by omega)
              have HE := hide (show (if k + 1 ≤ s.size then out ++ wordsR ((s.data.toList.take (k + 1)).drop (k + 1)) (s.data.toList.drop (k + 1)) = wordsB s.data.toList else out = wordsB s.data.toList) by rw [show keepW ((s.data.toList.take k).drop a) = [] by unfold keepW; rw [if_pos (by rw [List.isEmpty_iff, ← List.length_eq_zero_iff, seg_len (by omega)]; omega)], List.append_nil] at g1; exact g1)
              go_wp2_with fail
              go_roundw
              case rel => exact ⟨k + 1, k + 1, out, V, by omega, Nat.le_refl _, by go_num, by go_num, rfl, by omega, HE, HO, hb⟩
              case measure => simp [intOf] <;> omega
        · have hbl : blankB s.data.toList[k] = true := by
            have e2 : s[k] = 32 := byte_eq (c := 32) e32
            show blankB s[k] = true
            rw [e2]; rfl
          have g1 := g1 hbl
          clear g0 hbl
          by_cases hak : a < k
          · have hgt : decide ((k : Int) > (a : Int)) = true := decide_eq_true (by omega)
            obtain ⟨u, hu⟩ : ∃ u : ByteArray, u = s.extract a k := ⟨_, rfl⟩
            have hul : u.data.toList = (s.data.toList.take k).drop a := by rw [hu, Lib.extract_data, List.drop_take]
            have HE := hide (show (if k + 1 ≤ s.size then (out ++ [u.data.toList]) ++ wordsR ((s.data.toList.take (k + 1)).drop (k + 1)) (s.data.toList.drop (k + 1)) = wordsB s.data.toList else out ++ [u.data.toList] = wordsB s.data.toList) by rw [keepW_some (by rw [seg_len (by omega)]; omega), ← hul] at g1; exact g1)
            have HU := hide hu
            have hO5 := HO.out
            obtain ⟨A5, k5, hv5, _, _⟩ := hO5.rd.form
            subst hv5
            have hz2 := hb.size
            have R5 : RdL LW (wr.alloc (.cells #[.string u] 9)) (wr.heap.size + 1) (.slice (some ⟨wr.heap.size, 0, none⟩) 1 1) [u.data.toList] := by
              have := RdL.one_ (L := LW) (x := u.data.toList) (Blk.new wr 9 #[.string u]) (by simp [LW])
              simpa using this
            have HO5 := hide hO5
            clear hO5 HO hul hu
            have hai : (a : Int) ≤ (k : Int) := by omega
            have hks : (k : Int) ≤ (s.size : Int) := by omega
            go_wp2_with (first | (at_builtin; rw [← HU.out]; refine wpList_appL LW w (by rfl) (.tmp 31) (.tmp 36) _ _ (by rfl) rfl rfl w.heap.size _ _ (by rfl) (HO5.out.alloc _) (hb.alloc hb.size _) (by simp; omega) _ [u.data.toList] _ (by rfl) R5 (by decide) (by simp; omega) ?_) | (at_builtin; refine wpList_appL LW w (by rfl) (.tmp 31) (.tmp 36) _ _ (by rfl) rfl rfl w.heap.size _ _ (by rfl) (HO5.out.alloc _) (hb.alloc hb.size _) (by simp; omega) _ [u.data.toList] _ (by rfl) (HU.out ▸ R5) (by decide) (by simp; omega) ?_))
            intro v7 w7 O7 hB7 _ _
            have HO7 := hide O7
            clear O7 R5 HO5
            go_wp2_with fail
            go_roundw
            case rel => exact ⟨k + 1, k + 1, _, _, by omega, Nat.le_refl _, by go_num, by go_num, rfl, by simp; omega, HE, HO7, hB7⟩
            case measure => simp [intOf] <;> omega
          · have hgt : decide ((k : Int) > (a : Int)) = false := decide_eq_false (by omega)
            have HE := hide (show (if k + 1 ≤ s.size then out ++ wordsR ((s.data.toList.take (k + 1)).drop (k + 1)) (s.data.toList.drop (k + 1)) = wordsB s.data.toList else out = wordsB s.data.toList) by rw [show keepW ((s.data.toList.take k).drop a) = [] by unfold keepW; rw [if_pos (by rw [List.isEmpty_iff, ← List.length_eq_zero_iff, seg_len (by omega)]; omega)], List.append_nil] at g1; exact g1)
            go_wp2_with fail
            go_roundw
            case rel => exact ⟨k + 1, k + 1, out, V, by omega, Nat.le_refl _, by go_num, by go_num, rfl, by omega, HE, HO, hb⟩
            case measure => simp [intOf] <;> omega
      · obtain rfl : k = s.size := by omega
        have hne : ((s.size : Int) == (s.size : Int)) = true := by rw [beq_iff_eq]
        have g1 : out ++ keepW ((s.data.toList.take s.size).drop a) = wordsB s.data.toList := by have := HI2.out; rwa [words_end (by rw [lsize]; exact Nat.le_refl _)] at this
        by_cases hak : a < s.size
        · have hgt : decide ((s.size : Int) > (a : Int)) = true := decide_eq_true (by omega)
          obtain ⟨u, hu⟩ : ∃ u : ByteArray, u = s.extract a s.size := ⟨_, rfl⟩
          have hul : u.data.toList = (s.data.toList.take s.size).drop a := by rw [hu, Lib.extract_data, List.drop_take]
          have HE := hide (show (if s.size + 1 ≤ s.size then (out ++ [u.data.toList]) ++ wordsR ((s.data.toList.take (s.size + 1)).drop (s.size + 1)) (s.data.toList.drop (s.size + 1)) = wordsB s.data.toList else out ++ [u.data.toList] = wordsB s.data.toList) by rw [if_neg (by omega)]; rw [keepW_some (by rw [seg_len (by omega)]; omega), ← hul] at g1; exact g1)
          have HU := hide hu
          have hO5 := HO.out
          obtain ⟨A5, k5, hv5, _, _⟩ := hO5.rd.form
          subst hv5
          have hz2 := hb.size
          have R5 : RdL LW (wr.alloc (.cells #[.string u] 9)) (wr.heap.size + 1) (.slice (some ⟨wr.heap.size, 0, none⟩) 1 1) [u.data.toList] := by
            have := RdL.one_ (L := LW) (x := u.data.toList) (Blk.new wr 9 #[.string u]) (by simp [LW])
            simpa using this
          have HO5 := hide hO5
          clear hO5 HO hul hu
          have hai : (a : Int) ≤ (s.size : Int) := by omega
          have hks : (s.size : Int) ≤ (s.size : Int) := by omega
          go_wp2_with (first | (at_builtin; rw [← HU.out]; refine wpList_appL LW w (by rfl) (.tmp 31) (.tmp 36) _ _ (by rfl) rfl rfl w.heap.size _ _ (by rfl) (HO5.out.alloc _) (hb.alloc hb.size _) (by simp; omega) _ [u.data.toList] _ (by rfl) R5 (by decide) (by simp; omega) ?_) | (at_builtin; refine wpList_appL LW w (by rfl) (.tmp 31) (.tmp 36) _ _ (by rfl) rfl rfl w.heap.size _ _ (by rfl) (HO5.out.alloc _) (hb.alloc hb.size _) (by simp; omega) _ [u.data.toList] _ (by rfl) (HU.out ▸ R5) (by decide) (by simp; omega) ?_))
          intro v7 w7 O7 hB7 _ _
          have HO7 := hide O7
          clear O7 R5 HO5
          go_wp2_with fail
          go_roundw
          case rel => exact ⟨s.size + 1, s.size + 1, _, _, by omega, Nat.le_refl _, by go_num, by go_num, rfl, by simp; omega, HE, HO7, hB7⟩
          case measure => simp [intOf] <;> omega
        · have hgt : decide ((s.size : Int) > (a : Int)) = false := decide_eq_false (by omega)
          have HE := hide (show (if s.size + 1 ≤ s.size then out ++ wordsR ((s.data.toList.take (s.size + 1)).drop (s.size + 1)) (s.data.toList.drop (s.size + 1)) = wordsB s.data.toList else out = wordsB s.data.toList) by rw [if_neg (by omega)]; rw [show keepW ((s.data.toList.take s.size).drop a) = [] by unfold keepW; rw [if_pos (by rw [List.isEmpty_iff, ← List.length_eq_zero_iff, seg_len (by omega)]; omega)], List.append_nil] at g1; exact g1)
          go_wp2_with fail
          go_roundw
          case rel => exact ⟨s.size + 1, s.size + 1, out, V, by omega, Nat.le_refl _, by go_num, by go_num, rfl, by omega, HE, HO, hb⟩
          case measure => simp [intOf] <;> omega
    · have dle : decide ((k : Int) ≤ (s.size : Int)) = false := decide_eq_false (by omega)
      have HX := hide (show OwnL LW w.heap.size wr V (wordsB s.data.toList) by have := HI.out; rw [if_neg hle] at this; rw [← this]; exact HO.out)
      go_wp2_with fail
      go_ret
      exact ⟨_, rfl, HX.out, hb⟩

end Go.Proofs.YtmelcndflllgmaaGreatDoor
namespace Go.Proofs.YtmelcndflllgmaaGreatDoor
open Go.RowKit
set_option linter.unusedVariables false
set_option linter.unusedSimpArgs false

/-- What lengths does to a Meta. -/
def LenOk (l : List FieldL) (g : Nat) (mt : ByteArray) (mk : Bool) (md fr wh er : Int) (kv : Value) (tn : ByteArray) (kp : Bool) (w : World) (e : Ending) (w' : World) : Prop :=
  ∃ (b : Bool) (ln hv : Int), e = .returned (.bool b) ∧ Blk w' g 29 #[.string mt, .bool mk, .int .i64 md, .int .i64 ln, .int .i64 hv, .int .i64 fr, .int .i64 wh, .int .i64 er, kv, .string tn, .bool kp] ∧ But g w w' ∧
    (b = false → lenG l = none ∨ ∃ n, lenG l = some n ∧ haveG l n = none) ∧ (b = true → lenG l = some ln ∧ haveG l ln = some hv)
theorem lenG_none {l : List FieldL} (h : getF l nmXl = none) : lenG l = some (-1) := by unfold lenG; rw [h]
theorem lenG_star {l : List FieldL} (h : getF l nmXl = some [42]) : lenG l = some (-1) := by unfold lenG; rw [h]; rfl
theorem lenG_bad {l : List FieldL} {x : Bs} (h : getF l nmXl = some x) (h1 : x ≠ [42]) (h2 : numZ x < 0) : lenG l = none := by unfold lenG; rw [h]; simp only; rw [if_neg h1, if_pos h2]
theorem lenG_num {l : List FieldL} {x : Bs} (h : getF l nmXl = some x) (h1 : x ≠ [42]) (h2 : 0 ≤ numZ x) : lenG l = some (numZ x) := by unfold lenG; rw [h]; simp only; rw [if_neg h1, if_neg (by omega)]
theorem haveG_none {l : List FieldL} {n : Int} (h : getF l nmXh = none) : haveG l n = some (max n 0) := by unfold haveG; rw [h]
theorem haveG_bad {l : List FieldL} {x : Bs} {n : Int} (h : getF l nmXh = some x) (h2 : numZ x < 0 ∨ (n ≠ -1 ∧ numZ x ≠ n)) : haveG l n = none := by unfold haveG; rw [h]; simp only; rw [if_pos h2]
theorem haveG_num {l : List FieldL} {x : Bs} {n : Int} (h : getF l nmXh = some x) (h2 : ¬ (numZ x < 0 ∨ (n ≠ -1 ∧ numZ x ≠ n))) : haveG l n = some (numZ x) := by unfold haveG; rw [h]; simp only; rw [if_neg h2]
theorem RdL.but {α : Type} {L : Lay α} {w w' : World} {B g : Nat} {v : Value} {l : List α} (h : RdL L w B v l) (hb : But g w w') (hB : B ≤ g) (hz : B ≤ w.heap.size) : RdL L w' B v l := h.below (hb.bel (Below.refl _ _) hB hz)

set_option maxRecDepth 100000 in
set_option maxHeartbeats 16000000 in
theorem clengths_any (v : Value) (l : List FieldL) (g B : Nat) (mt : ByteArray) (mk : Bool) (md fr wh er : Int) (kv : Value) (tn : ByteArray) (kp : Bool) (hv0 : Int) (w0 : World) (hr : RdL LF w0 B v l) (hBg : B ≤ g) (hBz : B ≤ w0.heap.size) (hz : ∀ f ∈ l, f.1.length ≤ 1000000) (hz2 : ∀ f ∈ l, f.2.length ≤ 1000000) (hll : l.length ≤ 1000000) (hT : Blk w0 g 29 #[.string mt, .bool mk, .int .i64 md, .int .i64 (-1), .int .i64 (hv0), .int .i64 fr, .int .i64 wh, .int .i64 er, kv, .string tn, .bool kp]) : Calls Tryz.prog 26 #[v, .pointer (some ⟨g, 0, none⟩)] w0 (LenOk l g mt mk md fr wh er kv tn kp w0) := by
  have HR := hide hr
  have HT0 := hide hT
  have T := hT
  have cT := T.cell
  have fT := T.frozen
  clear hr hT HT0
  have hG0 := But.refl g w0
  go_enter Tryz.func26, Tryz.ntmps26
  go_wp2_with fail
  refine (fget_any v l ⟨#[88, 45, 76, 101, 110, 103, 116, 104]⟩ w0 ((HR.out.but hG0 hBg hBz).mono (by have := hG0.size; omega)) hz (by decide) hll).mono ?_
  rintro e w1 ⟨rfl, hb1⟩
  have hG1 := hG0.trans (But.of_below hb1)
  replace T := T.below hb1 T.lt
  clear cT fT hb1
  have cT := T.cell
  have fT := T.frozen
  have hgf : (ofV l (⟨#[88, 45, 76, 101, 110, 103, 116, 104]⟩ : ByteArray).data.toList).head? = getF l nmXl := rfl
  rw [hgf]
  clear hgf
  cases hh : getF l nmXl with
  | none =>
    have HL := hide (lenG_none hh)
    clear hh
    simp only [Option.getD_none, Option.isSome_none]
    go_upto_region 8 with fail
    obtain ⟨w2, hw2⟩ : ∃ W : World, W = w1.setCell ⟨g, 4, none⟩ (.int .i64 (max (-1) 0)) := ⟨_, rfl⟩
    rw [← hw2]
    have hG2 : But g w0 w2 := by rw [hw2]; exact hG1.set_ _
    have T' : Blk w2 g 29 #[.string mt, .bool mk, .int .i64 md, .int .i64 (-1), .int .i64 ((max (-1) 0)), .int .i64 fr, .int .i64 wh, .int .i64 er, kv, .string tn, .bool kp] := by rw [hw2]; simpa using T.set_ 4 (.int .i64 (max (-1) 0))
    replace T := T'
    clear hw2 cT fT T'
    have cT := T.cell
    have fT := T.frozen
    go_wp2_with fail
    refine (fget_any v l ⟨#[88, 45, 72, 97, 118, 101]⟩ w2 ((HR.out.but hG2 hBg hBz).mono (by have := hG2.size; omega)) hz (by decide) hll).mono ?_
    rintro e w3 ⟨rfl, hb3⟩
    have hG3 := hG2.trans (But.of_below hb3)
    replace T := T.below hb3 T.lt
    clear cT fT hb3
    have cT := T.cell
    have fT := T.frozen
    have hgf : (ofV l (⟨#[88, 45, 72, 97, 118, 101]⟩ : ByteArray).data.toList).head? = getF l nmXh := rfl
    rw [hgf]
    clear hgf
    cases hh : getF l nmXh with
    | none =>
      have HH := hide (haveG_none (n := -1) hh)
      clear hh
      simp only [Option.getD_none, Option.isSome_none]
      go_wp2_with fail
      go_ret
      exact ⟨true, _, _, rfl, T, hG3, by simp, fun _ => ⟨HL.out, HH.out⟩⟩
    | some x =>
      have HHX := hide hh
      simp only [Option.getD_some, Option.isSome_some]
      obtain ⟨s, hs⟩ : ∃ s : ByteArray, s = ⟨x.toArray⟩ := ⟨_, rfl⟩
      rw [← hs]
      have hsx : s.data.toList = x := by rw [hs]
      have hsz : s.size ≤ 1000000 := by
        obtain ⟨f9, hf9, e9⟩ := ofV_mem (List.mem_of_mem_head? hh)
        rw [← lsize, hsx, ← e9]; exact hz2 f9 hf9
      clear hs hh
      go_wp2_with fail
      refine (cnumz_any s w3 (by omega)).mono ?_
      rintro e w' ⟨rfl, rfl⟩
      rw [hsx]
      have hnb := numZ_bd x
      obtain ⟨n, hn⟩ : ∃ n, n = numZ x := ⟨_, rfl⟩
      rw [← hn] at hnb ⊢
      have HN := hide hn
      clear hn
      by_cases hn0 : n < 0
      · have d0 : decide (0 ≤ n) = false := decide_eq_false (by omega)
        have HB := hide (haveG_bad (n := -1) HHX.out (by rw [← HN.out]; exact .inl hn0))
        rw [if_pos hn0, d0]
        clear hn0 hnb
        go_wp2_with fail
        go_ret
        exact ⟨false, _, _, rfl, T, hG3, fun _ => .inr ⟨_, HL.out, HB.out⟩, by simp⟩
      · have d0 : decide (0 ≤ n) = true := decide_eq_true (by omega)
        rw [if_neg hn0, d0]
        have HO := hide (show haveG l (-1) = some n by rw [HN.out]; exact haveG_num HHX.out (by rw [← HN.out]; omega))
        clear hn0 hnb
        go_upto_region 14 with fail
        obtain ⟨w4, hw4⟩ : ∃ W : World, W = w3.setCell ⟨g, 4, none⟩ (.int .i64 n) := ⟨_, rfl⟩
        rw [← hw4]
        have hG4 : But g w0 w4 := by rw [hw4]; exact hG3.set_ _
        have T' : Blk w4 g 29 #[.string mt, .bool mk, .int .i64 md, .int .i64 (-1), .int .i64 (n), .int .i64 fr, .int .i64 wh, .int .i64 er, kv, .string tn, .bool kp] := by rw [hw4]; simpa using T.set_ 4 (.int .i64 n)
        clear hw4 cT fT T
        go_wp2_with fail
        go_ret
        exact ⟨true, _, _, rfl, T', hG4, by simp, fun _ => ⟨HL.out, HO.out⟩⟩
  | some x =>
    have HHL := hide hh
    simp only [Option.getD_some, Option.isSome_some]
    obtain ⟨s, hs⟩ : ∃ s : ByteArray, s = ⟨x.toArray⟩ := ⟨_, rfl⟩
    rw [← hs]
    have hsx : s.data.toList = x := by rw [hs]
    have hsz : s.size ≤ 1000000 := by
      obtain ⟨f9, hf9, e9⟩ := ofV_mem (List.mem_of_mem_head? hh)
      rw [← lsize, hsx, ← e9]; exact hz2 f9 hf9
    clear hs hh
    by_cases hst : x = [42]
    · have es : (s.toList == [42]) = true := by rw [ByteArray.toList_eq, hsx, beq_iff_eq]; exact hst
      have HL := hide (lenG_star (hst ▸ HHL.out))
      clear hst
      go_upto_region 8 with fail
      obtain ⟨w2, hw2⟩ : ∃ W : World, W = w1.setCell ⟨g, 4, none⟩ (.int .i64 (max (-1) 0)) := ⟨_, rfl⟩
      rw [← hw2]
      have hG2 : But g w0 w2 := by rw [hw2]; exact hG1.set_ _
      have T' : Blk w2 g 29 #[.string mt, .bool mk, .int .i64 md, .int .i64 (-1), .int .i64 ((max (-1) 0)), .int .i64 fr, .int .i64 wh, .int .i64 er, kv, .string tn, .bool kp] := by rw [hw2]; simpa using T.set_ 4 (.int .i64 (max (-1) 0))
      replace T := T'
      clear hw2 cT fT T'
      have cT := T.cell
      have fT := T.frozen
      go_wp2_with fail
      refine (fget_any v l ⟨#[88, 45, 72, 97, 118, 101]⟩ w2 ((HR.out.but hG2 hBg hBz).mono (by have := hG2.size; omega)) hz (by decide) hll).mono ?_
      rintro e w3 ⟨rfl, hb3⟩
      have hG3 := hG2.trans (But.of_below hb3)
      replace T := T.below hb3 T.lt
      clear cT fT hb3
      have cT := T.cell
      have fT := T.frozen
      have hgf : (ofV l (⟨#[88, 45, 72, 97, 118, 101]⟩ : ByteArray).data.toList).head? = getF l nmXh := rfl
      rw [hgf]
      clear hgf
      cases hh : getF l nmXh with
      | none =>
        have HH := hide (haveG_none (n := -1) hh)
        clear hh
        simp only [Option.getD_none, Option.isSome_none]
        go_wp2_with fail
        go_ret
        exact ⟨true, _, _, rfl, T, hG3, by simp, fun _ => ⟨HL.out, HH.out⟩⟩
      | some x =>
        have HHX := hide hh
        simp only [Option.getD_some, Option.isSome_some]
        obtain ⟨s, hs⟩ : ∃ s : ByteArray, s = ⟨x.toArray⟩ := ⟨_, rfl⟩
        rw [← hs]
        have hsx : s.data.toList = x := by rw [hs]
        have hsz : s.size ≤ 1000000 := by
          obtain ⟨f9, hf9, e9⟩ := ofV_mem (List.mem_of_mem_head? hh)
          rw [← lsize, hsx, ← e9]; exact hz2 f9 hf9
        clear hs hh
        go_wp2_with fail
        refine (cnumz_any s w3 (by omega)).mono ?_
        rintro e w' ⟨rfl, rfl⟩
        rw [hsx]
        have hnb := numZ_bd x
        obtain ⟨n, hn⟩ : ∃ n, n = numZ x := ⟨_, rfl⟩
        rw [← hn] at hnb ⊢
        have HN := hide hn
        clear hn
        by_cases hn0 : n < 0
        · have d0 : decide (0 ≤ n) = false := decide_eq_false (by omega)
          have HB := hide (haveG_bad (n := -1) HHX.out (by rw [← HN.out]; exact .inl hn0))
          rw [if_pos hn0, d0]
          clear hn0 hnb
          go_wp2_with fail
          go_ret
          exact ⟨false, _, _, rfl, T, hG3, fun _ => .inr ⟨_, HL.out, HB.out⟩, by simp⟩
        · have d0 : decide (0 ≤ n) = true := decide_eq_true (by omega)
          rw [if_neg hn0, d0]
          have HO := hide (show haveG l (-1) = some n by rw [HN.out]; exact haveG_num HHX.out (by rw [← HN.out]; omega))
          clear hn0 hnb
          go_upto_region 14 with fail
          obtain ⟨w4, hw4⟩ : ∃ W : World, W = w3.setCell ⟨g, 4, none⟩ (.int .i64 n) := ⟨_, rfl⟩
          rw [← hw4]
          have hG4 : But g w0 w4 := by rw [hw4]; exact hG3.set_ _
          have T' : Blk w4 g 29 #[.string mt, .bool mk, .int .i64 md, .int .i64 (-1), .int .i64 (n), .int .i64 fr, .int .i64 wh, .int .i64 er, kv, .string tn, .bool kp] := by rw [hw4]; simpa using T.set_ 4 (.int .i64 n)
          clear hw4 cT fT T
          go_wp2_with fail
          go_ret
          exact ⟨true, _, _, rfl, T', hG4, by simp, fun _ => ⟨HL.out, HO.out⟩⟩
    · have es : (s.toList == [42]) = false := by rw [ByteArray.toList_eq, hsx, beq_eq_false_iff_ne]; exact hst
      have HST := hide hst
      clear hst
      go_wp2_with fail
      refine (cnumz_any s w1 (by omega)).mono ?_
      rintro e w' ⟨rfl, rfl⟩
      rw [hsx]
      have hnb := numZ_bd x
      obtain ⟨m, hm⟩ : ∃ n, n = numZ x := ⟨_, rfl⟩
      rw [← hm] at hnb ⊢
      have HM := hide hm
      clear hm
      by_cases hm0 : m < 0
      · have d0 : decide (0 ≤ m) = false := decide_eq_false (by omega)
        have HB := hide (lenG_bad HHL.out HST.out (by rw [← HM.out]; exact hm0))
        rw [if_pos hm0, d0]
        clear hm0 hnb
        go_wp2_with fail
        go_ret
        exact ⟨false, _, _, rfl, T, hG1, fun _ => .inl HB.out, by simp⟩
      · have d0 : decide (0 ≤ m) = true := decide_eq_true (by omega)
        have HL := hide (show lenG l = some m by rw [HM.out]; exact lenG_num HHL.out HST.out (by rw [← HM.out]; omega))
        have hmx : 0 ≤ m := by omega
        rw [if_neg hm0, d0]
        clear hm0 es
        go_upto_region 7 with fail
        obtain ⟨w2, hw2⟩ : ∃ W : World, W = w1.setCell ⟨g, 3, none⟩ (.int .i64 m) := ⟨_, rfl⟩
        rw [← hw2]
        have hG2 : But g w0 w2 := by rw [hw2]; exact hG1.set_ _
        have T' : Blk w2 g 29 #[.string mt, .bool mk, .int .i64 md, .int .i64 (m), .int .i64 (hv0), .int .i64 fr, .int .i64 wh, .int .i64 er, kv, .string tn, .bool kp] := by rw [hw2]; simpa using T.set_ 3 (.int .i64 m)
        replace T := T'
        clear hw2 cT fT T'
        have cT := T.cell
        have fT := T.frozen
        go_upto_region 8 with fail
        obtain ⟨w3, hw3⟩ : ∃ W : World, W = w2.setCell ⟨g, 4, none⟩ (.int .i64 (max m 0)) := ⟨_, rfl⟩
        rw [← hw3]
        have hG3 : But g w0 w3 := by rw [hw3]; exact hG2.set_ _
        have T' : Blk w3 g 29 #[.string mt, .bool mk, .int .i64 md, .int .i64 (m), .int .i64 ((max m 0)), .int .i64 fr, .int .i64 wh, .int .i64 er, kv, .string tn, .bool kp] := by rw [hw3]; simpa using T.set_ 4 (.int .i64 (max m 0))
        replace T := T'
        clear hw3 cT fT T'
        have cT := T.cell
        have fT := T.frozen
        go_wp2_with fail
        refine (fget_any v l ⟨#[88, 45, 72, 97, 118, 101]⟩ w3 ((HR.out.but hG3 hBg hBz).mono (by have := hG3.size; omega)) hz (by decide) hll).mono ?_
        rintro e w4 ⟨rfl, hb4⟩
        have hG4 := hG3.trans (But.of_below hb4)
        replace T := T.below hb4 T.lt
        clear cT fT hb4
        have cT := T.cell
        have fT := T.frozen
        have hgf : (ofV l (⟨#[88, 45, 72, 97, 118, 101]⟩ : ByteArray).data.toList).head? = getF l nmXh := rfl
        rw [hgf]
        clear hgf
        cases hh : getF l nmXh with
        | none =>
          have HH := hide (haveG_none (n := m) hh)
          clear hh
          simp only [Option.getD_none, Option.isSome_none]
          go_wp2_with fail
          go_ret
          exact ⟨true, _, _, rfl, T, hG4, by simp, fun _ => ⟨HL.out, HH.out⟩⟩
        | some x =>
          have HHX := hide hh
          simp only [Option.getD_some, Option.isSome_some]
          obtain ⟨s, hs⟩ : ∃ s : ByteArray, s = ⟨x.toArray⟩ := ⟨_, rfl⟩
          rw [← hs]
          have hsx : s.data.toList = x := by rw [hs]
          have hsz : s.size ≤ 1000000 := by
            obtain ⟨f9, hf9, e9⟩ := ofV_mem (List.mem_of_mem_head? hh)
            rw [← lsize, hsx, ← e9]; exact hz2 f9 hf9
          clear hs hh
          go_wp2_with fail
          refine (cnumz_any s w4 (by omega)).mono ?_
          rintro e w' ⟨rfl, rfl⟩
          rw [hsx]
          have hnb := numZ_bd x
          obtain ⟨n, hn⟩ : ∃ n, n = numZ x := ⟨_, rfl⟩
          rw [← hn] at hnb ⊢
          have HN := hide hn
          clear hn
          by_cases hn0 : n < 0
          · have d0 : decide (0 ≤ n) = false := decide_eq_false (by omega)
            have HB := hide (haveG_bad (n := m) HHX.out (by rw [← HN.out]; exact .inl hn0))
            rw [if_pos hn0, d0]
            clear hn0 hnb
            go_wp2_with fail
            go_ret
            exact ⟨false, _, _, rfl, T, hG4, fun _ => .inr ⟨_, HL.out, HB.out⟩, by simp⟩
          · have d0 : decide (0 ≤ n) = true := decide_eq_true (by omega)
            rw [if_neg hn0, d0]
            have dm : (m == -1) = false := by rw [beq_eq_false_iff_ne]; omega
            have dm2 : (m != -1) = true := by rw [bne, dm]; rfl
            by_cases hne : n = m
            · have de : (n == m) = true := by rw [beq_iff_eq]; exact hne
              have de2 : (n != m) = false := by rw [bne, de]; rfl
              have HO := hide (show haveG l m = some n by rw [HN.out]; exact haveG_num HHX.out (by rw [← HN.out]; omega))
              clear hn0 hnb hne
              go_upto_region 14 with fail
              obtain ⟨w5, hw5⟩ : ∃ W : World, W = w4.setCell ⟨g, 4, none⟩ (.int .i64 n) := ⟨_, rfl⟩
              rw [← hw5]
              have hG5 : But g w0 w5 := by rw [hw5]; exact hG4.set_ _
              have T' : Blk w5 g 29 #[.string mt, .bool mk, .int .i64 md, .int .i64 (m), .int .i64 (n), .int .i64 fr, .int .i64 wh, .int .i64 er, kv, .string tn, .bool kp] := by rw [hw5]; simpa using T.set_ 4 (.int .i64 n)
              clear hw5 cT fT T
              go_wp2_with fail
              go_ret
              exact ⟨true, _, _, rfl, T', hG5, by simp, fun _ => ⟨HL.out, HO.out⟩⟩
            · have de : (n == m) = false := by rw [beq_eq_false_iff_ne]; exact hne
              have de2 : (n != m) = true := by rw [bne, de]; rfl
              have HB := hide (haveG_bad (n := m) HHX.out (by rw [← HN.out]; exact .inr ⟨by omega, hne⟩))
              clear hn0 hnb hne
              go_wp2_with fail
              go_ret
              exact ⟨false, _, _, rfl, T, hG4, fun _ => .inr ⟨_, HL.out, HB.out⟩, by simp⟩

end Go.Proofs.YtmelcndflllgmaaGreatDoor
