/-
  Merged: RcpA, RcpB, RcpC.
-/
import Derived.Test.YtmelcndflllgmaaGreatDoorGrCp
import Derived.Test.YtmelcndflllgmaaGreatDoorGrTp
namespace Go.Proofs.YtmelcndflllgmaaGreatDoor
open Go.RowKit
set_option linter.unusedVariables false
set_option linter.unusedSimpArgs false

def IntGot (n : Int) (w : World) (e : Ending) (w' : World) : Prop := e = .returned (.int .i64 n) ∧ w = w'
theorem retI {a b : Int} (h : a = b) : Ending.returned (.int .i64 a) = .returned (.int .i64 b) := by rw [h]

set_option maxHeartbeats 400000 in
theorem most_any (w : World) : Calls Tryz.prog 114 #[] w (IntGot 1099511627776 w) := by
  go_enter Tryz.func114, Tryz.ntmps114
  go_wp2
  go_ret
  exact ⟨rfl, rfl⟩

set_option maxHeartbeats 1000000 in
theorem less_any (a b : Int) (w : World) : Calls Tryz.prog 108 #[.int .i64 a, .int .i64 b] w (IntGot (lessV a b) w) := by
  by_cases h1 : b < 0
  · have d1 : decide (b < 0) = true := decide_eq_true h1
    have HV := hide (show lessV a b = a by unfold lessV; rw [if_pos (by omega)])
    go_enter Tryz.func108, Tryz.ntmps108
    go_wp2
    go_ret
    exact ⟨retI HV.out.symm, rfl⟩
  · have d1 : decide (b < 0) = false := decide_eq_false h1
    by_cases h2 : 0 ≤ a
    · have d2 : decide (0 ≤ a) = true := decide_eq_true h2
      by_cases h3 : a < b
      · have d3 : decide (a < b) = true := decide_eq_true h3
        have HV := hide (show lessV a b = a by unfold lessV; rw [if_pos (by omega)])
        go_enter Tryz.func108, Tryz.ntmps108
        go_wp2
        go_ret
        exact ⟨retI HV.out.symm, rfl⟩
      · have d3 : decide (a < b) = false := decide_eq_false h3
        have HV := hide (show lessV a b = b by unfold lessV; rw [if_neg (by omega)])
        go_enter Tryz.func108, Tryz.ntmps108
        go_wp2
        go_ret
        exact ⟨retI HV.out.symm, rfl⟩
    · have d2 : decide (0 ≤ a) = false := decide_eq_false h2
      have HV := hide (show lessV a b = b by unfold lessV; rw [if_neg (by omega)])
      go_enter Tryz.func108, Tryz.ntmps108
      go_wp2
      go_ret
      exact ⟨retI HV.out.symm, rfl⟩

set_option maxRecDepth 100000 in
set_option maxHeartbeats 4000000 in
theorem rcnumber_any (s : ByteArray) (w : World) (hs : s.size ≤ 9223372036854775807) : Calls Tryz.prog 75 #[.string s] w (IntGot (numV s.data.toList) w) := by
  by_cases h0 : s.size = 0
  · have d0 : ((s.size : Int) == 0) = true := by rw [h0]; rfl
    have HX := hide (show numV s.data.toList = -1 by rw [List.eq_nil_of_length_eq_zero ((lsize s).trans h0)]; rfl)
    clear h0
    go_enter Tryz.func75, Tryz.ntmps75
    go_wp2
    go_ret
    exact ⟨retI HX.out.symm, rfl⟩
  · have d0 : ((s.size : Int) == 0) = false := by rw [beq_eq_false_iff_ne]; omega
    have hne : s.data.toList ≠ [] := fun e => h0 (by rw [← lsize, e]; rfl)
    have HNE := hide hne
    clear hne
    go_enter Tryz.func75, Tryz.ntmps75
    go_wp2
    go_loop [3, 4] (fun n i => ∃ k : Nat, k ≤ s.size ∧ i = .int .i64 k ∧ n = .int .i64 ((s.data.toList.take k).foldl numStep 0) ∧ Hid ((s.data.toList.take k).all digB = true)) (fun _ i => s.size - (intOf i).toNat)
    case atStart => exact ⟨0, Nat.zero_le _, rfl, rfl, rfl⟩
    case round =>
      obtain ⟨k, hk, rfl, rfl, HA⟩ := hrel
      by_cases hlt : k < s.size
      · obtain ⟨n, hn⟩ : ∃ n, n = (s.data.toList.take k).foldl numStep 0 := ⟨_, rfl⟩
        have hbd := numFold_bd _ HA.out 0 (by omega) (by omega)
        rw [← hn] at hbd ⊢
        obtain ⟨hb0, hb1⟩ := hbd
        have HN := hide hn
        clear hn
        by_cases h1 : (s[k].toNat : Int) < 48
        · have d1 : decide ((s[k].toNat : Int) < 48) = true := decide_eq_true h1
          have HS := hide (numV_no (all_no digB s k hlt (by unfold digB; rw [decide_eq_false_iff_not]; omega)))
          go_wp2
          go_ret
          exact ⟨retI HS.out.symm, rfl⟩
        · have d1 : decide ((s[k].toNat : Int) < 48) = false := decide_eq_false h1
          by_cases h2 : 57 < (s[k].toNat : Int)
          · have d2 : decide ((s[k].toNat : Int) > 57) = true := decide_eq_true h2
            have HS := hide (numV_no (all_no digB s k hlt (by unfold digB; rw [decide_eq_false_iff_not]; omega)))
            go_wp2
            go_ret
            exact ⟨retI HS.out.symm, rfl⟩
          · have d2 : decide ((s[k].toNat : Int) > 57) = false := decide_eq_false h2
            have HS := hide (all_stepD hlt HA.out (by unfold digB; rw [decide_eq_true_eq]; omega))
            have HF := hide (show (s.data.toList.take (k + 1)).foldl numStep 0 = min (n * 10 + ((s[k].toNat : Int) - 48)) 1099511627776 by rw [take_snocS s k hlt, numFold_app, ← HN.out]; rfl)
            go_wp2_with fail
            refine (most_any _).mono ?_
            rintro e w' ⟨rfl, rfl⟩
            by_cases h3 : 1099511627776 < 10 * n + (s[k].toNat : Int) - 48
            · have d3 : decide (1099511627776 < 10 * n + (s[k].toNat : Int) - 48) = true := decide_eq_true h3
              go_wp2_with fail
              refine (most_any _).mono ?_
              rintro e w' ⟨rfl, rfl⟩
              go_wp2
              go_round
              case rel => exact ⟨k + 1, by omega, by go_num, by rw [HF.out]; exact congrArg _ (by omega), HS⟩
              case measure => simp [intOf]; omega
            · have d3 : decide (1099511627776 < 10 * n + (s[k].toNat : Int) - 48) = false := decide_eq_false h3
              go_wp2
              go_round
              case rel => exact ⟨k + 1, by omega, by go_num, by rw [HF.out]; exact congrArg _ (by omega), HS⟩
              case measure => simp [intOf]; omega
      · have hx : (s.data.toList.take k) = s.data.toList := List.take_of_length_le (by rw [lsize]; omega)
        rw [hx] at HA
        rw [hx]
        obtain ⟨n, hn⟩ : ∃ n, n = s.data.toList.foldl numStep 0 := ⟨_, rfl⟩
        have HS := hide (numV_yes HA.out HNE.out)
        rw [← hn] at HS ⊢
        clear hx hn
        go_wp2
        go_ret
        exact ⟨retI HS.out.symm, rfl⟩

end Go.Proofs.YtmelcndflllgmaaGreatDoor
namespace Go.Proofs.YtmelcndflllgmaaGreatDoor
open Go.RowKit
set_option linter.unusedVariables false
set_option linter.unusedSimpArgs false

theorem OwnB.made (w : World) (cap B : Nat) (hb : B ≤ w.heap.size) (hm : cap ≤ maxLen) (cur : Array Value) (hs : cur.size = cap) : OwnB B (w.alloc (.cells cur 5)) (.slice (some ⟨w.heap.size, 0, none⟩) 0 cap) [] := by
  unfold OwnB
  have hg : (w.alloc (.cells cur 5)).heap[w.heap.size]? = some (.cells cur 5 (0, 0)) := heap_alloc_new w _
  exact ⟨by simp [Lib.byteCells], .inr ⟨w.heap.size, cap, cur, rfl, hb, hg, Nat.zero_le _, hm, by simpa using hs, by simp [Lib.byteCells]⟩⟩
theorem low_snoc (s : ByteArray) (k : Nat) (h : k < s.size) : (s.data.toList.take (k + 1)).map lowB = (s.data.toList.take k).map lowB ++ [lowB s[k]] := by rw [take_snocS s k h, List.map_append]; rfl

set_option maxRecDepth 100000 in
set_option maxHeartbeats 4000000 in
theorem rlower_any (s : ByteArray) (w : World) (hs : s.size ≤ 1000000) : Calls Tryz.prog 107 #[.string s] w (StrGot (s.data.toList.map lowB) w) := by
  go_enter Tryz.func107, Tryz.ntmps107
  go_wp2
  go_loopw [3, 4, 5] (fun v i c wr => ∃ k : Nat, k ≤ s.size ∧ i = .int .i64 k ∧ Hid (OwnB w.heap.size wr v ((s.data.toList.take k).map lowB)) ∧ Below w.heap.size w wr) (fun _ i _ _ => s.size - (intOf i).toNat)
  case atStart => exact ⟨0, Nat.zero_le _, rfl, OwnB.made w 0 _ (Nat.le_refl _) (by decide) #[] rfl, (Below.refl _ _).alloc (Nat.le_refl _) _⟩
  case round =>
    obtain ⟨k, hk, rfl, HO, hb⟩ := hrel
    by_cases hlt : k < s.size
    · have hls := low_snoc s k hlt
      have hln : ((s.data.toList.take k).map lowB).length ≤ 1000000 := by rw [List.length_map, List.length_take, lsize]; omega
      obtain ⟨lo, hlo⟩ : ∃ x, x = (s.data.toList.take k).map lowB := ⟨_, rfl⟩
      rw [← hlo] at hls hln HO
      have HL := hide hls
      clear hls hlo
      by_cases h1 : 65 ≤ (s[k].toNat : Int)
      · have d1 : decide ((s[k].toNat : Int) ≥ 65) = true := decide_eq_true h1
        by_cases h2 : (s[k].toNat : Int) ≤ 90
        · have d2 : decide ((s[k].toNat : Int) ≤ 90) = true := decide_eq_true h2
          have HU := hide (lowB_up h1 h2)
          go_wp2_with (at_builtin; refine wpList_app1 w rfl (.tmp 24) (.tmp 26) rfl w.heap.size _ _ rfl (HO.out.alloc _) (hb.alloc hb.size _) (by simp; have := hb.size; omega) ⟨wr.heap.size, 0, none⟩ 1 (lowB s[k]) rfl (by simp [go_sem, HU.out]) (by simp; omega) ?_)
          intro v6 w6 O6 hB6 _
          rw [← HL.out] at O6
          go_wp2
          go_roundw
          case rel => exact ⟨k + 1, by omega, by go_num, O6, hB6⟩
          case measure => simp [intOf]; omega
        · have d2 : decide ((s[k].toNat : Int) ≤ 90) = false := decide_eq_false h2
          have HU := hide (congrArg (fun b : UInt8 => (b.toNat : Int)) (lowB_no (b := s[k]) (by omega)))
          go_wp2_with (at_builtin; refine wpList_app1 w rfl (.tmp 24) (.tmp 26) rfl w.heap.size _ _ rfl (HO.out.alloc _) (hb.alloc hb.size _) (by simp; have := hb.size; omega) ⟨wr.heap.size, 0, none⟩ 1 (lowB s[k]) rfl (by simp [go_sem, HU.out]) (by simp; omega) ?_)
          intro v6 w6 O6 hB6 _
          rw [← HL.out] at O6
          go_wp2
          go_roundw
          case rel => exact ⟨k + 1, by omega, by go_num, O6, hB6⟩
          case measure => simp [intOf]; omega
      · have d1 : decide ((s[k].toNat : Int) ≥ 65) = false := decide_eq_false h1
        have HU := hide (congrArg (fun b : UInt8 => (b.toNat : Int)) (lowB_no (b := s[k]) (by omega)))
        go_wp2_with (at_builtin; refine wpList_app1 w rfl (.tmp 24) (.tmp 26) rfl w.heap.size _ _ rfl (HO.out.alloc _) (hb.alloc hb.size _) (by simp; have := hb.size; omega) ⟨wr.heap.size, 0, none⟩ 1 (lowB s[k]) rfl (by simp [go_sem, HU.out]) (by simp; omega) ?_)
        intro v6 w6 O6 hB6 _
        rw [← HL.out] at O6
        go_wp2
        go_roundw
        case rel => exact ⟨k + 1, by omega, by go_num, O6, hB6⟩
        case measure => simp [intOf]; omega
    · have hx : (s.data.toList.take k) = s.data.toList := List.take_of_length_le (by rw [lsize]; omega)
      rw [hx] at HO
      have hcv := run_ownB_string _ _ _ _ HO.out
      go_wp2
      go_ret
      exact ⟨rfl, hb⟩

end Go.Proofs.YtmelcndflllgmaaGreatDoor
namespace Go.Proofs.YtmelcndflllgmaaGreatDoor
open Go.RowKit
set_option linter.unusedVariables false
set_option linter.unusedSimpArgs false

theorem blank_ints {b : UInt8} (h : blankB b = false) : ((b.toNat : Int) == 32) = false ∧ ((b.toNat : Int) == 9) = false := by
  unfold blankB at h
  rw [Bool.or_eq_false_iff] at h
  refine ⟨?_, ?_⟩
  · rw [beq_eq_false_iff_ne]; intro e
    have : b = 32 := UInt8.toNat_inj.1 (by have : (32 : UInt8).toNat = 32 := rfl; omega)
    rw [this] at h; exact absurd h.1 (by decide)
  · rw [beq_eq_false_iff_ne]; intro e
    have : b = 9 := UInt8.toNat_inj.1 (by have : (9 : UInt8).toNat = 9 := rfl; omega)
    rw [this] at h; exact absurd h.2 (by decide)
theorem blank_yes {b : UInt8} (h : blankB b = true) : ((b.toNat : Int) == 32) = true ∨ (((b.toNat : Int) == 32) = false ∧ ((b.toNat : Int) == 9) = true) := by
  unfold blankB at h
  rw [Bool.or_eq_true, beq_iff_eq, beq_iff_eq] at h
  rcases h with rfl | rfl
  · left; rfl
  · right; exact ⟨rfl, rfl⟩

set_option maxHeartbeats 2000000 in
theorem rctrim_at (s : ByteArray) (w : World) (hs : s.size ≤ 9223372036854775807) : Calls Tryz.prog 76 #[.string s] w (StrAt (trimB s.data.toList) w) := by
  go_enter Tryz.func76, Tryz.ntmps76
  go_wp2_with fail
  go_loop [0] (fun v => ∃ u : ByteArray, v = .string u ∧ u.size ≤ s.size ∧ Hid (TrimR s u)) (fun v => match v with | .string u => u.size | _ => 0)
  case atStart => exact ⟨s, rfl, Nat.le_refl _, ⟨rfl, Nat.le_refl _⟩⟩
  case round =>
    obtain ⟨u, rfl, hu, HU⟩ := hrel
    by_cases hlt : 0 < u.size
    · have z0 : (0 : Int) < (u.size : Int) := by omega
      have d0 : decide ((u.size : Int) > 0) = true := by simp; omega
      cases hb : blankB u[0]
      · have HS := hide (show TrimS s u from ⟨HU.out, fun _ => hb⟩)
        have HB := hide hb
        clear hb
        obtain ⟨f1, f2⟩ := blank_ints HB.out
        go_wp2_with fail
        clear HU
        go_loop [0] (fun v => ∃ u : ByteArray, v = .string u ∧ u.size ≤ s.size ∧ Hid (TrimS s u)) (fun v => match v with | .string u => u.size | _ => 0)
        case atStart => exact ⟨u, rfl, hu, HS⟩
        case round =>
          obtain ⟨u, rfl, hu, HU⟩ := hrel
          by_cases hlt : 0 < u.size
          · have z0 : (1 : Int) ≤ (u.size : Int) := by omega
            have d0 : decide ((u.size : Int) > 0) = true := by simp; omega
            have l1 : u.size - 1 < u.size := by omega
            cases hb : blankB (u[u.size - 1]'l1)
            · have HX := hide (show u.data.toList = trimB s.data.toList by rw [← HU.out.1.1]; exact (trim_end HU.out.2 (fun _ => hb)).symm)
              have HB := hide hb
              clear hb HU
              obtain ⟨f1, f2⟩ := blank_ints HB.out
              go_wp2_with fail
              go_ret
              exact ⟨u, HX.out, rfl, rfl⟩
            · have HX := hide (show TrimS s (u.extract 0 (u.size - 1)) from ⟨⟨(trim_init l1 hb).trans HU.out.1.1, by simp; omega⟩, fun h => by rw [head_init hlt h]; exact HU.out.2 hlt⟩)
              have HB := hide hb
              clear hb HU
              rcases blank_yes HB.out with f1 | ⟨f1, f2⟩
              · go_wp2_with fail
                go_round
                case rel => exact ⟨_, rfl, by simp; omega, HX⟩
                case measure => simp; omega
              · go_wp2_with fail
                go_round
                case rel => exact ⟨_, rfl, by simp; omega, HX⟩
                case measure => simp; omega
          · have HX := hide (show u.data.toList = trimB s.data.toList by rw [← HU.out.1.1]; exact (trim_end HU.out.2 (fun h => absurd h (by omega))).symm)
            have d0 : decide ((u.size : Int) > 0) = false := decide_eq_false (by omega)
            clear HU
            go_wp2_with fail
            go_ret
            exact ⟨u, HX.out, rfl, rfl⟩
      · have HS := hide (show TrimR s (u.extract 1 u.size) from ⟨(trim_tail hlt hb).trans HU.out.1, by simp; omega⟩)
        have HB := hide hb
        clear hb
        rcases blank_yes HB.out with f1 | ⟨f1, f2⟩
        · go_wp2_with fail
          go_round
          case rel => exact ⟨_, rfl, by simp; omega, HS⟩
          case measure => simp; omega
        · go_wp2_with fail
          go_round
          case rel => exact ⟨_, rfl, by simp; omega, HS⟩
          case measure => simp; omega
    · have HS := hide (show TrimS s u from ⟨HU.out, fun h => absurd h hlt⟩)
      have d0 : decide ((u.size : Int) > 0) = false := decide_eq_false (by omega)
      go_wp2_with fail
      clear HU
      go_loop [0] (fun v => ∃ u : ByteArray, v = .string u ∧ u.size ≤ s.size ∧ Hid (TrimS s u)) (fun v => match v with | .string u => u.size | _ => 0)
      case atStart => exact ⟨u, rfl, hu, HS⟩
      case round =>
        obtain ⟨u, rfl, hu, HU⟩ := hrel
        by_cases hlt : 0 < u.size
        · have z0 : (1 : Int) ≤ (u.size : Int) := by omega
          have d0 : decide ((u.size : Int) > 0) = true := by simp; omega
          have l1 : u.size - 1 < u.size := by omega
          cases hb : blankB (u[u.size - 1]'l1)
          · have HX := hide (show u.data.toList = trimB s.data.toList by rw [← HU.out.1.1]; exact (trim_end HU.out.2 (fun _ => hb)).symm)
            have HB := hide hb
            clear hb HU
            obtain ⟨f1, f2⟩ := blank_ints HB.out
            go_wp2_with fail
            go_ret
            exact ⟨u, HX.out, rfl, rfl⟩
          · have HX := hide (show TrimS s (u.extract 0 (u.size - 1)) from ⟨⟨(trim_init l1 hb).trans HU.out.1.1, by simp; omega⟩, fun h => by rw [head_init hlt h]; exact HU.out.2 hlt⟩)
            have HB := hide hb
            clear hb HU
            rcases blank_yes HB.out with f1 | ⟨f1, f2⟩
            · go_wp2_with fail
              go_round
              case rel => exact ⟨_, rfl, by simp; omega, HX⟩
              case measure => simp; omega
            · go_wp2_with fail
              go_round
              case rel => exact ⟨_, rfl, by simp; omega, HX⟩
              case measure => simp; omega
        · have HX := hide (show u.data.toList = trimB s.data.toList by rw [← HU.out.1.1]; exact (trim_end HU.out.2 (fun h => absurd h (by omega))).symm)
          have d0 : decide ((u.size : Int) > 0) = false := decide_eq_false (by omega)
          clear HU
          go_wp2_with fail
          go_ret
          exact ⟨u, HX.out, rfl, rfl⟩

theorem rctrim_any (s : ByteArray) (w : World) (hs : s.size ≤ 9223372036854775807) : Calls Tryz.prog 76 #[.string s] w (StrOk (trimB s.data.toList) w) :=
  (rctrim_at s w hs).mono fun e w' ⟨t, h1, h2, h3⟩ => ⟨t, h1, h2, by rw [h3]; exact Below.refl _ _⟩

end Go.Proofs.YtmelcndflllgmaaGreatDoor
