/-
  Without blanks: the reference's walk.
-/
import Derived.Test.YtkmheoolekookaaDoorStrL
import Derived.Lib.IndexBytes
import Derived.Test.YtkmheoolekookaaDoorGrTb
import Derived.Outline
import Derived.Deep.DeepCutAuto
namespace Go.Proofs.YtkmheoolekookaaDoor
open Go.RowKit
set_option linter.unusedVariables false
set_option linter.unusedSimpArgs false

theorem rblank_any (b : UInt8) (w : World) : Calls Tryd.prog 80 #[.int .u8 (b.toNat : Int)] w fun e w' => e = .returned (.bool (blankB b)) ∧ w = w' := by
  cases h1 : (((b.toNat : Int)) == 32)
  · cases h2 : (((b.toNat : Int)) == 9)
    · have hx := hide (show blankB b = false by
        have e1 : b ≠ 32 := byte_ne (c := 32) h1
        have e2 : b ≠ 9 := byte_ne (c := 9) h2
        unfold blankB; simp [e1, e2])
      go_enter Tryd.func80, Tryd.ntmps80
      go_wp2_with fail
      go_ret
      exact ⟨ret_bool hx.out.symm, rfl⟩
    · have hx := hide (show blankB b = true by
        have e2 : b = 9 := byte_eq (c := 9) h2
        rw [e2]; rfl)
      go_enter Tryd.func80, Tryd.ntmps80
      go_wp2_with fail
      go_ret
      exact ⟨ret_bool hx.out.symm, rfl⟩
  · have hx := hide (show blankB b = true by
      have e2 : b = 32 := byte_eq (c := 32) h1
      rw [e2]; rfl)
    go_enter Tryd.func80, Tryd.ntmps80
    go_wp2_with fail
    go_ret
    exact ⟨ret_bool hx.out.symm, rfl⟩

theorem trim_tail {u : ByteArray} (h : 0 < u.size) (hb : blankB u[0] = true) : trimB (u.extract 1 u.size).data.toList = trimB u.data.toList := by
  have e : u.data.toList = [u[0]] ++ (u.extract 1 u.size).data.toList := by
    rw [Lib.extract_to_end]
    have hl : u.data.toList.length = u.size := lsize u
    cases hu : u.data.toList with
    | nil => rw [hu] at hl; simp at hl; omega
    | cons a l =>
      have := head_at h
      rw [hu] at this
      injection this with this
      rw [← this]; rfl
  rw [e, trim_pre (by simpa using hb)]
theorem trim_init {u : ByteArray} (h : u.size - 1 < u.size) (hb : blankB (u[u.size - 1]'h) = true) : trimB (u.extract 0 (u.size - 1)).data.toList = trimB u.data.toList := by
  have e : u.data.toList = (u.extract 0 (u.size - 1)).data.toList ++ [u[u.size - 1]'h] := by
    have hl := last_at h
    have hne : u.data.toList ≠ [] := fun e => by rw [e] at hl; cases hl
    have e1 : (u.extract 0 (u.size - 1)).data.toList = u.data.toList.dropLast := by
      rw [Lib.extract_data, List.drop_zero, List.dropLast_eq_take, lsize]; rfl
    rw [List.getLast?_eq_some_getLast hne] at hl
    injection hl with hl
    rw [e1, ← hl, List.dropLast_concat_getLast]
  rw [e, trim_post (by simpa using hb)]
theorem head_init {u : ByteArray} (h : 0 < u.size) (h' : 0 < (u.extract 0 (u.size - 1)).size) : (u.extract 0 (u.size - 1))[0]'h' = u[0]'h := by
  have a := head_at h'
  have b := head_at h
  have h2 : 0 < u.size - 1 := by simpa using h'
  rw [Lib.extract_data, List.drop_zero] at a
  generalize u.data.toList = l at a b
  cases l with
  | nil => cases b
  | cons c l =>
    obtain ⟨k, hk⟩ : ∃ k, u.size - 1 - 0 = k + 1 := ⟨u.size - 1 - 1, by omega⟩
    rw [hk, List.take_succ_cons] at a
    injection a with a
    injection b with b
    rw [← a, ← b]
theorem trim_end {u : ByteArray} (h1 : ∀ h : 0 < u.size, blankB (u[0]'h) = false) (h2 : ∀ h : u.size - 1 < u.size, blankB (u[u.size - 1]'h) = false) : trimB u.data.toList = u.data.toList := by
  refine trim_core ⟨fun b hb => ?_, fun b hb => ?_⟩
  · by_cases h : 0 < u.size
    · rw [head_at h] at hb; injection hb with hb; rw [← hb]; exact h1 h
    · have : u.data.toList = [] := List.eq_nil_of_length_eq_zero (by rw [lsize]; omega)
      rw [this] at hb; cases hb
  · by_cases h : u.size - 1 < u.size
    · rw [last_at h] at hb; injection hb with hb; rw [← hb]; exact h2 h
    · have : u.data.toList = [] := List.eq_nil_of_length_eq_zero (by rw [lsize]; omega)
      rw [this] at hb; cases hb
def TrimR (s u : ByteArray) : Prop := trimB u.data.toList = trimB s.data.toList ∧ u.size ≤ s.size
def TrimS (s u : ByteArray) : Prop := TrimR s u ∧ ∀ h : 0 < u.size, blankB (u[0]'h) = false

def StrAt (l : Bs) (w : World) (e : Ending) (w' : World) : Prop := ∃ t : ByteArray, t.data.toList = l ∧ e = .returned (.string t) ∧ w = w'
set_option maxHeartbeats 2000000 in
theorem rtrim_at (s : ByteArray) (w : World) (hs : s.size ≤ 9223372036854775807) : Calls Tryd.prog 55 #[.string s] w (StrAt (trimB s.data.toList) w) := by
  go_enter Tryd.func55, Tryd.ntmps55
  go_wp2_with fail
  go_loop [0] (fun v => ∃ u : ByteArray, v = .string u ∧ u.size ≤ s.size ∧ Hid (TrimR s u)) (fun v => match v with | .string u => u.size | _ => 0)
  case atStart => exact ⟨s, rfl, Nat.le_refl _, ⟨rfl, Nat.le_refl _⟩⟩
  case round =>
    obtain ⟨u, rfl, hu, HU⟩ := hrel
    by_cases hlt : 0 < u.size
    · have z0 : (0 : Int) < (u.size : Int) := by omega
      have d0 : decide ((u.size : Int) > 0) = true := by simp; omega
      cases hb : blankB u[0]
      · have HS := hide (show TrimS s u from ⟨HU.out, fun _ => hb⟩)
        have HB := hide hb
        clear hb
        go_wp2_with fail
        refine (rblank_any _ _).mono ?_
        rintro e w' ⟨rfl, rfl⟩
        rw [HB.out]
        go_wp2_with fail
        clear HU
        go_loop [0] (fun v => ∃ u : ByteArray, v = .string u ∧ u.size ≤ s.size ∧ Hid (TrimS s u)) (fun v => match v with | .string u => u.size | _ => 0)
        case atStart => exact ⟨u, rfl, hu, HS⟩
        case round =>
          obtain ⟨u, rfl, hu, HU⟩ := hrel
          by_cases hlt : 0 < u.size
          · have z0 : (1 : Int) ≤ (u.size : Int) := by omega
            have d0 : decide ((u.size : Int) > 0) = true := by simp; omega
            have l1 : u.size - 1 < u.size := by omega
            cases hb : blankB (u[u.size - 1]'l1)
            · have HX := hide (show u.data.toList = trimB s.data.toList by rw [← HU.out.1.1]; exact (trim_end HU.out.2 (fun _ => hb)).symm)
              have HB := hide hb
              clear hb HU
              go_wp2_with fail
              refine (rblank_any _ _).mono ?_
              rintro e w' ⟨rfl, rfl⟩
              rw [HB.out]
              go_wp2_with fail
              go_ret
              exact ⟨u, HX.out, rfl, rfl⟩
            · have HX := hide (show TrimS s (u.extract 0 (u.size - 1)) from ⟨⟨(trim_init l1 hb).trans HU.out.1.1, by simp; omega⟩, fun h => by rw [head_init hlt h]; exact HU.out.2 hlt⟩)
              have HB := hide hb
              clear hb HU
              go_wp2_with fail
              refine (rblank_any _ _).mono ?_
              rintro e w' ⟨rfl, rfl⟩
              rw [HB.out]
              go_wp2_with fail
              go_round
              case rel => exact ⟨_, rfl, by simp; omega, HX⟩
              case measure => simp; omega
          · have HX := hide (show u.data.toList = trimB s.data.toList by rw [← HU.out.1.1]; exact (trim_end HU.out.2 (fun h => absurd h (by omega))).symm)
            have d0 : decide ((u.size : Int) > 0) = false := decide_eq_false (by omega)
            clear HU
            go_wp2_with fail
            go_ret
            exact ⟨u, HX.out, rfl, rfl⟩
      · have HS := hide (show TrimR s (u.extract 1 u.size) from ⟨(trim_tail hlt hb).trans HU.out.1, by simp; omega⟩)
        have HB := hide hb
        clear hb
        go_wp2_with fail
        refine (rblank_any _ _).mono ?_
        rintro e w' ⟨rfl, rfl⟩
        rw [HB.out]
        go_wp2_with fail
        go_round
        case rel => exact ⟨_, rfl, by simp; omega, HS⟩
        case measure => simp; omega
    · have HS := hide (show TrimS s u from ⟨HU.out, fun h => absurd h hlt⟩)
      have d0 : decide ((u.size : Int) > 0) = false := decide_eq_false (by omega)
      go_wp2_with fail
      clear HU
      go_loop [0] (fun v => ∃ u : ByteArray, v = .string u ∧ u.size ≤ s.size ∧ Hid (TrimS s u)) (fun v => match v with | .string u => u.size | _ => 0)
      case atStart => exact ⟨u, rfl, hu, HS⟩
      case round =>
        obtain ⟨u, rfl, hu, HU⟩ := hrel
        by_cases hlt : 0 < u.size
        · have z0 : (1 : Int) ≤ (u.size : Int) := by omega
          have d0 : decide ((u.size : Int) > 0) = true := by simp; omega
          have l1 : u.size - 1 < u.size := by omega
          cases hb : blankB (u[u.size - 1]'l1)
          · have HX := hide (show u.data.toList = trimB s.data.toList by rw [← HU.out.1.1]; exact (trim_end HU.out.2 (fun _ => hb)).symm)
            have HB := hide hb
            clear hb HU
            go_wp2_with fail
            refine (rblank_any _ _).mono ?_
            rintro e w' ⟨rfl, rfl⟩
            rw [HB.out]
            go_wp2_with fail
            go_ret
            exact ⟨u, HX.out, rfl, rfl⟩
          · have HX := hide (show TrimS s (u.extract 0 (u.size - 1)) from ⟨⟨(trim_init l1 hb).trans HU.out.1.1, by simp; omega⟩, fun h => by rw [head_init hlt h]; exact HU.out.2 hlt⟩)
            have HB := hide hb
            clear hb HU
            go_wp2_with fail
            refine (rblank_any _ _).mono ?_
            rintro e w' ⟨rfl, rfl⟩
            rw [HB.out]
            go_wp2_with fail
            go_round
            case rel => exact ⟨_, rfl, by simp; omega, HX⟩
            case measure => simp; omega
        · have HX := hide (show u.data.toList = trimB s.data.toList by rw [← HU.out.1.1]; exact (trim_end HU.out.2 (fun h => absurd h (by omega))).symm)
          have d0 : decide ((u.size : Int) > 0) = false := decide_eq_false (by omega)
          clear HU
          go_wp2_with fail
          go_ret
          exact ⟨u, HX.out, rfl, rfl⟩

theorem rtrim_any (s : ByteArray) (w : World) (hs : s.size ≤ 9223372036854775807) : Calls Tryd.prog 55 #[.string s] w (StrOk (trimB s.data.toList) w) :=
  (rtrim_at s w hs).mono fun e w' ⟨t, h1, h2, h3⟩ => ⟨t, h1, h2, by rw [h3]; exact Below.refl _ _⟩

end Go.Proofs.YtkmheoolekookaaDoor
