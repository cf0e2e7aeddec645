/-
  A text without blanks at its ends: the reference of layer 7.
-/
import Derived.Test.YtiigkacmahecaaaDoorGrTp
namespace Go.Proofs.YtiigkacmahecaaaDoor
open Go.RowKit
set_option linter.unusedVariables false
set_option linter.unusedSimpArgs false


theorem r7blank_any (b : UInt8) (w : World) : Calls Tryd.prog 74 #[.int .u8 (b.toNat : Int)] w fun e w' => e = .returned (.bool (blankB b)) ∧ w = w' := by
  cases h1 : (((b.toNat : Int)) == 32)
  · cases h2 : (((b.toNat : Int)) == 9)
    · have hx := hide (show blankB b = false by
        have e1 : b ≠ 32 := byte_ne (c := 32) h1
        have e2 : b ≠ 9 := byte_ne (c := 9) h2
        unfold blankB; simp [e1, e2])
      go_enter Tryd.func74, Tryd.ntmps74
      go_wp2_with fail
      go_ret
      exact ⟨ret_bool hx.out.symm, rfl⟩
    · have hx := hide (show blankB b = true by
        have e2 : b = 9 := byte_eq (c := 9) h2
        rw [e2]; rfl)
      go_enter Tryd.func74, Tryd.ntmps74
      go_wp2_with fail
      go_ret
      exact ⟨ret_bool hx.out.symm, rfl⟩
  · have hx := hide (show blankB b = true by
      have e2 : b = 32 := byte_eq (c := 32) h1
      rw [e2]; rfl)
    go_enter Tryd.func74, Tryd.ntmps74
    go_wp2_with fail
    go_ret
    exact ⟨ret_bool hx.out.symm, rfl⟩
set_option maxHeartbeats 2000000 in
theorem r7trim_at (s : ByteArray) (w : World) (hs : s.size ≤ 9223372036854775807) : Calls Tryd.prog 63 #[.string s] w (StrAt (trimB s.data.toList) w) := by
  go_enter Tryd.func63, Tryd.ntmps63
  go_wp2_with fail
  go_loop [0] (fun v => ∃ u : ByteArray, v = .string u ∧ u.size ≤ s.size ∧ Hid (TrimR s u)) (fun v => match v with | .string u => u.size | _ => 0)
  case atStart => exact ⟨s, rfl, Nat.le_refl _, ⟨rfl, Nat.le_refl _⟩⟩
  case round =>
    obtain ⟨u, rfl, hu, HU⟩ := hrel
    by_cases hlt : 0 < u.size
    · have z0 : (0 : Int) < (u.size : Int) := by omega
      have d0 : decide ((u.size : Int) > 0) = true := by simp; omega
      cases hb : blankB u[0]
      · have HS := hide (show TrimS s u from ⟨HU.out, fun _ => hb⟩)
        have HB := hide hb
        clear hb
        go_wp2_with fail
        refine (r7blank_any _ _).mono ?_
        rintro e w' ⟨rfl, rfl⟩
        rw [HB.out]
        go_wp2_with fail
        clear HU
        go_loop [0] (fun v => ∃ u : ByteArray, v = .string u ∧ u.size ≤ s.size ∧ Hid (TrimS s u)) (fun v => match v with | .string u => u.size | _ => 0)
        case atStart => exact ⟨u, rfl, hu, HS⟩
        case round =>
          obtain ⟨u, rfl, hu, HU⟩ := hrel
          by_cases hlt : 0 < u.size
          · have z0 : (1 : Int) ≤ (u.size : Int) := by omega
            have d0 : decide ((u.size : Int) > 0) = true := by simp; omega
            have l1 : u.size - 1 < u.size := by omega
            cases hb : blankB (u[u.size - 1]'l1)
            · have HX := hide (show u.data.toList = trimB s.data.toList by rw [← HU.out.1.1]; exact (trim_end HU.out.2 (fun _ => hb)).symm)
              have HB := hide hb
              clear hb HU
              go_wp2_with fail
              refine (r7blank_any _ _).mono ?_
              rintro e w' ⟨rfl, rfl⟩
              rw [HB.out]
              go_wp2_with fail
              go_ret
              exact ⟨u, HX.out, rfl, rfl⟩
            · have HX := hide (show TrimS s (u.extract 0 (u.size - 1)) from ⟨⟨(trim_init l1 hb).trans HU.out.1.1, by simp; omega⟩, fun h => by rw [head_init hlt h]; exact HU.out.2 hlt⟩)
              have HB := hide hb
              clear hb HU
              go_wp2_with fail
              refine (r7blank_any _ _).mono ?_
              rintro e w' ⟨rfl, rfl⟩
              rw [HB.out]
              go_wp2_with fail
              go_round
              case rel => exact ⟨_, rfl, by simp; omega, HX⟩
              case measure => simp; omega
          · have HX := hide (show u.data.toList = trimB s.data.toList by rw [← HU.out.1.1]; exact (trim_end HU.out.2 (fun h => absurd h (by omega))).symm)
            have d0 : decide ((u.size : Int) > 0) = false := decide_eq_false (by omega)
            clear HU
            go_wp2_with fail
            go_ret
            exact ⟨u, HX.out, rfl, rfl⟩
      · have HS := hide (show TrimR s (u.extract 1 u.size) from ⟨(trim_tail hlt hb).trans HU.out.1, by simp; omega⟩)
        have HB := hide hb
        clear hb
        go_wp2_with fail
        refine (r7blank_any _ _).mono ?_
        rintro e w' ⟨rfl, rfl⟩
        rw [HB.out]
        go_wp2_with fail
        go_round
        case rel => exact ⟨_, rfl, by simp; omega, HS⟩
        case measure => simp; omega
    · have HS := hide (show TrimS s u from ⟨HU.out, fun h => absurd h hlt⟩)
      have d0 : decide ((u.size : Int) > 0) = false := decide_eq_false (by omega)
      go_wp2_with fail
      clear HU
      go_loop [0] (fun v => ∃ u : ByteArray, v = .string u ∧ u.size ≤ s.size ∧ Hid (TrimS s u)) (fun v => match v with | .string u => u.size | _ => 0)
      case atStart => exact ⟨u, rfl, hu, HS⟩
      case round =>
        obtain ⟨u, rfl, hu, HU⟩ := hrel
        by_cases hlt : 0 < u.size
        · have z0 : (1 : Int) ≤ (u.size : Int) := by omega
          have d0 : decide ((u.size : Int) > 0) = true := by simp; omega
          have l1 : u.size - 1 < u.size := by omega
          cases hb : blankB (u[u.size - 1]'l1)
          · have HX := hide (show u.data.toList = trimB s.data.toList by rw [← HU.out.1.1]; exact (trim_end HU.out.2 (fun _ => hb)).symm)
            have HB := hide hb
            clear hb HU
            go_wp2_with fail
            refine (r7blank_any _ _).mono ?_
            rintro e w' ⟨rfl, rfl⟩
            rw [HB.out]
            go_wp2_with fail
            go_ret
            exact ⟨u, HX.out, rfl, rfl⟩
          · have HX := hide (show TrimS s (u.extract 0 (u.size - 1)) from ⟨⟨(trim_init l1 hb).trans HU.out.1.1, by simp; omega⟩, fun h => by rw [head_init hlt h]; exact HU.out.2 hlt⟩)
            have HB := hide hb
            clear hb HU
            go_wp2_with fail
            refine (r7blank_any _ _).mono ?_
            rintro e w' ⟨rfl, rfl⟩
            rw [HB.out]
            go_wp2_with fail
            go_round
            case rel => exact ⟨_, rfl, by simp; omega, HX⟩
            case measure => simp; omega
        · have HX := hide (show u.data.toList = trimB s.data.toList by rw [← HU.out.1.1]; exact (trim_end HU.out.2 (fun h => absurd h (by omega))).symm)
          have d0 : decide ((u.size : Int) > 0) = false := decide_eq_false (by omega)
          clear HU
          go_wp2_with fail
          go_ret
          exact ⟨u, HX.out, rfl, rfl⟩

theorem r7trim_any (s : ByteArray) (w : World) (hs : s.size ≤ 9223372036854775807) : Calls Tryd.prog 63 #[.string s] w (StrOk (trimB s.data.toList) w) :=
  (r7trim_at s w hs).mono fun e w' ⟨t, h1, h2, h3⟩ => ⟨t, h1, h2, by rw [h3]; exact Below.refl _ _⟩

end Go.Proofs.YtiigkacmahecaaaDoor
