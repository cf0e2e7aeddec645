/-
  Without blanks: the reference's walk of layer 9.
-/
import Derived.Test.YtkkhiahdmlmecaaDoorTagQ
import Derived.Test.YtkkhiahdmlmecaaDoorRcpB
namespace Go.Proofs.YtkkhiahdmlmecaaDoor
open Go.RowKit
set_option linter.unusedVariables false
set_option linter.unusedSimpArgs false

theorem blank_ints {b : UInt8} (h : blankB b = false) : ((b.toNat : Int) == 32) = false ∧ ((b.toNat : Int) == 9) = false := by
  unfold blankB at h
  rw [Bool.or_eq_false_iff] at h
  refine ⟨?_, ?_⟩
  · rw [beq_eq_false_iff_ne]; intro e
    have : b = 32 := UInt8.toNat_inj.1 (by have : (32 : UInt8).toNat = 32 := rfl; omega)
    rw [this] at h; exact absurd h.1 (by decide)
  · rw [beq_eq_false_iff_ne]; intro e
    have : b = 9 := UInt8.toNat_inj.1 (by have : (9 : UInt8).toNat = 9 := rfl; omega)
    rw [this] at h; exact absurd h.2 (by decide)
theorem blank_yes {b : UInt8} (h : blankB b = true) : ((b.toNat : Int) == 32) = true ∨ (((b.toNat : Int) == 32) = false ∧ ((b.toNat : Int) == 9) = true) := by
  unfold blankB at h
  rw [Bool.or_eq_true, beq_iff_eq, beq_iff_eq] at h
  rcases h with rfl | rfl
  · left; rfl
  · right; exact ⟨rfl, rfl⟩

set_option maxHeartbeats 2000000 in
theorem rctrim_at (s : ByteArray) (w : World) (hs : s.size ≤ 9223372036854775807) : Calls Tryd.prog 40 #[.string s] w (StrAt (trimB s.data.toList) w) := by
  go_enter Tryd.func40, Tryd.ntmps40
  go_wp2_with fail
  go_loop [0] (fun v => ∃ u : ByteArray, v = .string u ∧ u.size ≤ s.size ∧ Hid (TrimR s u)) (fun v => match v with | .string u => u.size | _ => 0)
  case atStart => exact ⟨s, rfl, Nat.le_refl _, ⟨rfl, Nat.le_refl _⟩⟩
  case round =>
    obtain ⟨u, rfl, hu, HU⟩ := hrel
    by_cases hlt : 0 < u.size
    · have z0 : (0 : Int) < (u.size : Int) := by omega
      have d0 : decide ((u.size : Int) > 0) = true := by simp; omega
      cases hb : blankB u[0]
      · have HS := hide (show TrimS s u from ⟨HU.out, fun _ => hb⟩)
        have HB := hide hb
        clear hb
        obtain ⟨f1, f2⟩ := blank_ints HB.out
        go_wp2_with fail
        clear HU
        go_loop [0] (fun v => ∃ u : ByteArray, v = .string u ∧ u.size ≤ s.size ∧ Hid (TrimS s u)) (fun v => match v with | .string u => u.size | _ => 0)
        case atStart => exact ⟨u, rfl, hu, HS⟩
        case round =>
          obtain ⟨u, rfl, hu, HU⟩ := hrel
          by_cases hlt : 0 < u.size
          · have z0 : (1 : Int) ≤ (u.size : Int) := by omega
            have d0 : decide ((u.size : Int) > 0) = true := by simp; omega
            have l1 : u.size - 1 < u.size := by omega
            cases hb : blankB (u[u.size - 1]'l1)
            · have HX := hide (show u.data.toList = trimB s.data.toList by rw [← HU.out.1.1]; exact (trim_end HU.out.2 (fun _ => hb)).symm)
              have HB := hide hb
              clear hb HU
              obtain ⟨f1, f2⟩ := blank_ints HB.out
              go_wp2_with fail
              go_ret
              exact ⟨u, HX.out, rfl, rfl⟩
            · have HX := hide (show TrimS s (u.extract 0 (u.size - 1)) from ⟨⟨(trim_init l1 hb).trans HU.out.1.1, by simp; omega⟩, fun h => by rw [head_init hlt h]; exact HU.out.2 hlt⟩)
              have HB := hide hb
              clear hb HU
              rcases blank_yes HB.out with f1 | ⟨f1, f2⟩
              · go_wp2_with fail
                go_round
                case rel => exact ⟨_, rfl, by simp; omega, HX⟩
                case measure => simp; omega
              · go_wp2_with fail
                go_round
                case rel => exact ⟨_, rfl, by simp; omega, HX⟩
                case measure => simp; omega
          · have HX := hide (show u.data.toList = trimB s.data.toList by rw [← HU.out.1.1]; exact (trim_end HU.out.2 (fun h => absurd h (by omega))).symm)
            have d0 : decide ((u.size : Int) > 0) = false := decide_eq_false (by omega)
            clear HU
            go_wp2_with fail
            go_ret
            exact ⟨u, HX.out, rfl, rfl⟩
      · have HS := hide (show TrimR s (u.extract 1 u.size) from ⟨(trim_tail hlt hb).trans HU.out.1, by simp; omega⟩)
        have HB := hide hb
        clear hb
        rcases blank_yes HB.out with f1 | ⟨f1, f2⟩
        · go_wp2_with fail
          go_round
          case rel => exact ⟨_, rfl, by simp; omega, HS⟩
          case measure => simp; omega
        · go_wp2_with fail
          go_round
          case rel => exact ⟨_, rfl, by simp; omega, HS⟩
          case measure => simp; omega
    · have HS := hide (show TrimS s u from ⟨HU.out, fun h => absurd h hlt⟩)
      have d0 : decide ((u.size : Int) > 0) = false := decide_eq_false (by omega)
      go_wp2_with fail
      clear HU
      go_loop [0] (fun v => ∃ u : ByteArray, v = .string u ∧ u.size ≤ s.size ∧ Hid (TrimS s u)) (fun v => match v with | .string u => u.size | _ => 0)
      case atStart => exact ⟨u, rfl, hu, HS⟩
      case round =>
        obtain ⟨u, rfl, hu, HU⟩ := hrel
        by_cases hlt : 0 < u.size
        · have z0 : (1 : Int) ≤ (u.size : Int) := by omega
          have d0 : decide ((u.size : Int) > 0) = true := by simp; omega
          have l1 : u.size - 1 < u.size := by omega
          cases hb : blankB (u[u.size - 1]'l1)
          · have HX := hide (show u.data.toList = trimB s.data.toList by rw [← HU.out.1.1]; exact (trim_end HU.out.2 (fun _ => hb)).symm)
            have HB := hide hb
            clear hb HU
            obtain ⟨f1, f2⟩ := blank_ints HB.out
            go_wp2_with fail
            go_ret
            exact ⟨u, HX.out, rfl, rfl⟩
          · have HX := hide (show TrimS s (u.extract 0 (u.size - 1)) from ⟨⟨(trim_init l1 hb).trans HU.out.1.1, by simp; omega⟩, fun h => by rw [head_init hlt h]; exact HU.out.2 hlt⟩)
            have HB := hide hb
            clear hb HU
            rcases blank_yes HB.out with f1 | ⟨f1, f2⟩
            · go_wp2_with fail
              go_round
              case rel => exact ⟨_, rfl, by simp; omega, HX⟩
              case measure => simp; omega
            · go_wp2_with fail
              go_round
              case rel => exact ⟨_, rfl, by simp; omega, HX⟩
              case measure => simp; omega
        · have HX := hide (show u.data.toList = trimB s.data.toList by rw [← HU.out.1.1]; exact (trim_end HU.out.2 (fun h => absurd h (by omega))).symm)
          have d0 : decide ((u.size : Int) > 0) = false := decide_eq_false (by omega)
          clear HU
          go_wp2_with fail
          go_ret
          exact ⟨u, HX.out, rfl, rfl⟩

theorem rctrim_any (s : ByteArray) (w : World) (hs : s.size ≤ 9223372036854775807) : Calls Tryd.prog 40 #[.string s] w (StrOk (trimB s.data.toList) w) :=
  (rctrim_at s w hs).mono fun e w' ⟨t, h1, h2, h3⟩ => ⟨t, h1, h2, by rw [h3]; exact Below.refl _ _⟩

end Go.Proofs.YtkkhiahdmlmecaaDoor
