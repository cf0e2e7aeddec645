/-
  Merged: StrA, StrB, SmallA.
-/
import Derived.Test.YtfcbmajogmojbaaGreatDoorTagA
import Derived.Test.YtfcbmajogmojbaaGreatDoorGrU
import Derived.Deep.QuietTactic
namespace Go.Proofs.YtfcbmajogmojbaaGreatDoor
open Go.RowKit
set_option linter.unusedVariables false
set_option linter.unusedSimpArgs false

def BoolAt (b : Bool) (w : World) (e : Ending) (w' : World) : Prop := e = .returned (.bool b) ∧ w = w'
def keyByte (b : UInt8) : Bool := decide (33 ≤ (b.toNat : Int) ∧ (b.toNat : Int) ≤ 126)
def keyOk (s : ByteArray) : Bool := decide (1 ≤ s.size ∧ s.size ≤ 200) && s.data.toList.all keyByte
def firstIs (s : ByteArray) (n : Int) : Bool := match s.data.toList with
  | [] => false
  | b :: _ => (b.toNat : Int) == n
def objOk (s : ByteArray) : Bool := keyOk s && firstIs s 47
def tenByte (b : UInt8) : Bool := decide ((97 ≤ (b.toNat : Int) ∧ (b.toNat : Int) ≤ 122) ∨ (65 ≤ (b.toNat : Int) ∧ (b.toNat : Int) ≤ 90) ∨ (48 ≤ (b.toNat : Int) ∧ (b.toNat : Int) ≤ 57) ∨ (b.toNat : Int) = 45 ∨ (b.toNat : Int) = 95)
def tenOk (s : ByteArray) : Bool := decide (s.size ≤ 40) && !firstIs s 45 && s.data.toList.all tenByte
theorem firstIs_at (s : ByteArray) (n : Int) (h : 0 < s.size) : firstIs s n = ((s[0].toNat : Int) == n) := by
  unfold firstIs
  have e : s.data.toList[0]? = some s[0] := by
    rw [List.getElem?_eq_getElem (by simpa using h)]; rfl
  cases hl : s.data.toList with
  | nil => rw [hl] at e; simp at e
  | cons b l => rw [hl] at e; simp at e; rw [e]
theorem firstIs_no (s : ByteArray) (n : Int) (h : s.size = 0) : firstIs s n = false := by
  unfold firstIs
  have : s.data.toList = [] := by
    have : s.data.toList.length = 0 := by simpa using h
    exact List.length_eq_zero_iff.1 this
  rw [this]

set_option maxHeartbeats 1000000 in
theorem mkey (s : ByteArray) (w : World) (hs : s.size ≤ 9223372036854775807) :
    Calls Tryz.prog 24 #[.string s] w (BoolAt (keyOk s) w) := by
  by_cases h1 : s.size < 1
  · have hx := hide (show keyOk s = false by unfold keyOk; simp; omega)
    go_enter Tryz.func24, Tryz.ntmps24
    go_wp2
    go_ret
    exact ⟨ret_bool hx.out.symm, rfl⟩
  · by_cases h2 : 200 < s.size
    · have hx := hide (show keyOk s = false by unfold keyOk; simp; omega)
      go_enter Tryz.func24, Tryz.ntmps24
      go_wp2
      go_ret
      exact ⟨ret_bool hx.out.symm, rfl⟩
    · have h3 : 1 ≤ s.size := by omega
      have h4 : s.size ≤ 200 := by omega
      clear h1 h2 hs
      have hx := hide (show keyOk s = s.data.toList.all keyByte by unfold keyOk; simp [h3, h4])
      go_enter Tryz.func24, Tryz.ntmps24
      go_wp2
      go_loop [14] (fun i => ∃ k : Nat, k ≤ s.size ∧ i = .int .i64 k ∧ (s.data.toList.take k).all keyByte = true) (fun i => s.size - (intOf i).toNat)
      case atStart => exact ⟨0, Nat.zero_le _, rfl, rfl⟩
      case round =>
        obtain ⟨k, hk, rfl, ha⟩ := hrel
        have HA := hide ha
        clear ha
        by_cases hlt : k < s.size
        · have hb : (s[k].toNat : Int) ≤ 255 := by have := s[k].toNat_lt; omega
          by_cases hg : 33 ≤ (s[k].toNat : Int) ∧ (s[k].toNat : Int) ≤ 126
          · have HS := hide (show (s.data.toList.take (k + 1)).all keyByte = true by rw [all_step _ s k hlt HA.out]; unfold keyByte; simpa using hg)
            obtain ⟨g1, g3⟩ := hg
            go_wp2
            go_round
            case rel => exact ⟨k + 1, by omega, by go_num, HS.out⟩
            case measure => simp [intOf]; omega
          · have HS := hide (show s.data.toList.all keyByte = false from all_no _ s k hlt (by unfold keyByte; simpa using hg))
            by_cases g1 : (s[k].toNat : Int) < 33
            · clear hg
              go_wp2
              go_ret
              exact ⟨ret_bool (by rw [hx.out, HS.out]; try simp), rfl⟩
            · have g5 : 126 < (s[k].toNat : Int) := by omega
              clear hg
              go_wp2
              go_ret
              exact ⟨ret_bool (by rw [hx.out, HS.out]; try simp), rfl⟩
        · have HE := hide (all_whole keyByte s k (by omega))
          go_wp2
          go_ret
          exact ⟨ret_bool (by rw [hx.out, ← HE.out, HA.out]), rfl⟩

set_option maxHeartbeats 1000000 in
theorem robject_any (s : ByteArray) (w : World) (hs : s.size ≤ 9223372036854775807) :
    Calls Tryz.prog 18 #[.string s] w (BoolAt (objOk s) w) := by
  by_cases h1 : s.size < 1
  · have hx := hide (show objOk s = false by unfold objOk keyOk; simp; omega)
    go_enter Tryz.func18, Tryz.ntmps18
    go_wp2
    go_ret
    exact ⟨ret_bool hx.out.symm, rfl⟩
  · by_cases h2 : 200 < s.size
    · have hx := hide (show objOk s = false by unfold objOk keyOk; simp; omega)
      go_enter Tryz.func18, Tryz.ntmps18
      go_wp2
      go_ret
      exact ⟨ret_bool hx.out.symm, rfl⟩
    · have h3 : 0 < s.size := by omega
      have h4 : s.size ≤ 200 := by omega
      have hf := hide (firstIs_at s 47 h3)
      clear h1 h2 hs
      by_cases h5 : (s[0].toNat : Int) = 47
      · have h6 : ((s[0].toNat : Int) != 47) = false := by simpa using h5
        have hx := hide (show objOk s = s.data.toList.all keyByte by unfold objOk keyOk; rw [hf.out]; simp [h5, h4, show 1 ≤ s.size from h3])
        clear h5
        go_enter Tryz.func18, Tryz.ntmps18
        go_wp2
        go_loop [3] (fun i => ∃ k : Nat, k ≤ s.size ∧ i = .int .i64 k ∧ (s.data.toList.take k).all keyByte = true) (fun i => s.size - (intOf i).toNat)
        case atStart => exact ⟨0, Nat.zero_le _, rfl, rfl⟩
        case round =>
          clear h6
          obtain ⟨k, hk, rfl, ha⟩ := hrel
          have HA := hide ha
          clear ha
          by_cases hlt : k < s.size
          · have hb : (s[k].toNat : Int) ≤ 255 := by have := s[k].toNat_lt; omega
            by_cases hg : 33 ≤ (s[k].toNat : Int) ∧ (s[k].toNat : Int) ≤ 126
            · have HS := hide (show (s.data.toList.take (k + 1)).all keyByte = true by rw [all_step _ s k hlt HA.out]; unfold keyByte; simpa using hg)
              obtain ⟨g1, g3⟩ := hg
              go_wp2
              go_round
              case rel => exact ⟨k + 1, by omega, by go_num, HS.out⟩
              case measure => simp [intOf]; omega
            · have HS := hide (show s.data.toList.all keyByte = false from all_no _ s k hlt (by unfold keyByte; simpa using hg))
              by_cases g1 : (s[k].toNat : Int) < 33
              · clear hg
                go_wp2
                go_ret
                exact ⟨ret_bool (by rw [hx.out, HS.out]; try simp), rfl⟩
              · have g5 : 126 < (s[k].toNat : Int) := by omega
                clear hg
                go_wp2
                go_ret
                exact ⟨ret_bool (by rw [hx.out, HS.out]; try simp), rfl⟩
          · have HE := hide (all_whole keyByte s k (by omega))
            go_wp2
            go_ret
            exact ⟨ret_bool (by rw [hx.out, ← HE.out, HA.out]), rfl⟩
      · have h6 : ((s[0].toNat : Int) != 47) = true := by simpa using h5
        have hx := hide (show objOk s = false by unfold objOk; rw [hf.out]; simp [h5])
        clear h5
        go_enter Tryz.func18, Tryz.ntmps18
        go_wp2
        go_ret
        exact ⟨ret_bool hx.out.symm, rfl⟩

theorem ext_one (s : ByteArray) (h : 0 < s.size) : (s.extract 0 1).toList = [s[0]] := by
  rw [ByteArray.toList_eq]
  have e : (s.extract 0 1).data.toList = s.data.toList.take 1 := by simp
  rw [e, take_snocS s 0 h]; rfl
theorem one_byte (b c : UInt8) (n : Int) (h : (c.toNat : Int) = n) : ([b] == [c]) = ((b.toNat : Int) == n) := by
  subst h
  rw [Bool.eq_iff_iff]
  simp
  rw [← UInt8.toNat_inj]
  omega

set_option maxHeartbeats 1000000 in
theorem prefix_dash (s : ByteArray) (w : World) (hs : s.size ≤ 9223372036854775807) :
    Calls Tryz.prog 43 #[.string s, .string ⟨#[45]⟩] w (BoolAt (firstIs s 45) w) := by
  by_cases h0 : s.size = 0
  · have hx := hide (firstIs_no s 45 h0)
    have h1 : s.size < 1 := by omega
    clear h0 hs
    go_enter Tryz.func43, Tryz.ntmps43
    go_wp2
    go_ret
    exact ⟨ret_bool hx.out.symm, rfl⟩
  · have h1 : 0 < s.size := by omega
    have h2 : 1 ≤ s.size := h1
    have hx := hide (firstIs_at s 45 h1)
    clear h0
    go_enter Tryz.func43, Tryz.ntmps43
    go_wp2
    go_ret
    exact ⟨ret_bool (by rw [hx.out, ext_one s h1]; exact one_byte _ 45 45 rfl), rfl⟩

def Rten (s : ByteArray) (k : Nat) : Prop := (s.data.toList.take k).all tenByte = true ∧ (0 < k → firstIs s 45 = false)
theorem rten_zero (s : ByteArray) : Rten s 0 := ⟨rfl, fun h => absurd h (Nat.lt_irrefl 0)⟩
theorem rten_step {s : ByteArray} {k : Nat} (h : Rten s k) (hk : k < s.size) (hg : tenByte s[k] = true) (hn : k = 0 → ¬ (s[k].toNat : Int) = 45) : Rten s (k + 1) := by
  refine ⟨by rw [all_step _ s k hk h.1]; exact hg, fun _ => ?_⟩
  rcases Nat.eq_zero_or_pos k with rfl | hp
  · rw [firstIs_at s 45 hk]; simpa using hn rfl
  · exact h.2 hp
theorem rten_no {s : ByteArray} {k : Nat} (hk : k < s.size) (hg : tenByte s[k] = false) : tenOk s = false := by
  unfold tenOk; rw [all_no _ s k hk hg, Bool.and_false]
theorem rten_dash {s : ByteArray} (hk : 0 < s.size) (hg : (s[0].toNat : Int) = 45) : tenOk s = false := by
  unfold tenOk; rw [firstIs_at s 45 hk, hg]; simp
theorem rten_whole {s : ByteArray} {k : Nat} (h : Rten s k) (hk : s.size ≤ k) : tenOk s = decide (s.size ≤ 40) := by
  unfold tenOk
  rw [← all_whole tenByte s k hk, h.1]
  rcases Nat.eq_zero_or_pos k with rfl | hp
  · rw [firstIs_no s 45 (by omega)]; simp
  · rw [h.2 hp]; simp
theorem rten_all {s : ByteArray} {k : Nat} (ha : (s.data.toList.take k).all tenByte = true) (hf : firstIs s 45 = false) (h4 : s.size ≤ 40) (hk : s.size ≤ k) : tenOk s = true := by
  unfold tenOk; rw [← all_whole tenByte s k hk, ha, hf]; simp [h4]

set_option maxHeartbeats 4000000 in
theorem tenant_any (s : ByteArray) (w : World) (hs : s.size ≤ 9223372036854775807) :
    Calls Tryz.prog 23 #[.string s] w (BoolAt (tenOk s) w) := by
  by_cases h1 : 40 < s.size
  · have hx := hide (show tenOk s = false by unfold tenOk; simp; omega)
    go_enter Tryz.func23, Tryz.ntmps23
    go_wp2_with fail
    go_ret
    exact ⟨ret_bool hx.out.symm, rfl⟩
  · have h4 : s.size ≤ 40 := by omega
    clear h1
    cases hf : firstIs s 45
    · go_enter Tryz.func23, Tryz.ntmps23
      go_wp2_with fail
      refine (prefix_dash _ _ hs).mono ?_
      rintro e w' ⟨rfl, rfl⟩
      go_wp2_with fail
      have HF := hide hf
      clear hf hs
      go_loop [15] (fun i => ∃ k : Nat, k ≤ s.size ∧ i = .int .i64 k ∧ (s.data.toList.take k).all tenByte = true) (fun i => s.size - (intOf i).toNat)
      case atStart => exact ⟨0, Nat.zero_le _, rfl, rfl⟩
      case round =>
        obtain ⟨k, hk, rfl, ha⟩ := hrel
        have HA := hide ha
        clear ha
        by_cases hlt : k < s.size
        · have hb : (s[k].toNat : Int) ≤ 255 := by have := s[k].toNat_lt; omega
          have key : ((s[k].toNat : Int) < 45) ∨ ((s[k].toNat : Int) = 45) ∨ (45 < (s[k].toNat : Int) ∧ (s[k].toNat : Int) ≤ 47) ∨ (48 ≤ (s[k].toNat : Int) ∧ (s[k].toNat : Int) ≤ 57) ∨ (58 ≤ (s[k].toNat : Int) ∧ (s[k].toNat : Int) ≤ 64) ∨ (65 ≤ (s[k].toNat : Int) ∧ (s[k].toNat : Int) ≤ 90) ∨ (91 ≤ (s[k].toNat : Int) ∧ (s[k].toNat : Int) ≤ 94) ∨ ((s[k].toNat : Int) = 95) ∨ ((s[k].toNat : Int) = 96) ∨ (97 ≤ (s[k].toNat : Int) ∧ (s[k].toNat : Int) ≤ 122) ∨ (123 ≤ (s[k].toNat : Int)) := by omega
          rcases key with h | h | h | h | h | h | h | h | h | h | h
          · have q45 : ((s[k].toNat : Int) == 45) = false := by simp; omega
            have p45 : ((s[k].toNat : Int) != 45) = true := by simp; omega
            have q95 : ((s[k].toNat : Int) == 95) = false := by simp; omega
            have p95 : ((s[k].toNat : Int) != 95) = true := by simp; omega
            have d0 : decide (97 ≤ (s[k].toNat : Int)) = false := by simp; omega
            have d1 : decide ((s[k].toNat : Int) ≤ 122) = true := by simp; omega
            have d2 : decide (65 ≤ (s[k].toNat : Int)) = false := by simp; omega
            have d3 : decide ((s[k].toNat : Int) ≤ 90) = true := by simp; omega
            have d4 : decide (48 ≤ (s[k].toNat : Int)) = false := by simp; omega
            have d5 : decide ((s[k].toNat : Int) ≤ 57) = true := by simp; omega
            have HG := hide (show tenByte s[k] = false by unfold tenByte; simp; omega)
            have hl : (s[k].toNat : Int) < 45 := h
            clear h
            have HS := hide (rten_no hlt HG.out)
            go_wp2
            go_ret
            exact ⟨ret_bool HS.out.symm, rfl⟩
          · have q45 : ((s[k].toNat : Int) == 45) = true := by simp; omega
            have p45 : ((s[k].toNat : Int) != 45) = false := by simp; omega
            have q95 : ((s[k].toNat : Int) == 95) = false := by simp; omega
            have p95 : ((s[k].toNat : Int) != 95) = true := by simp; omega
            have d0 : decide (97 ≤ (s[k].toNat : Int)) = false := by simp; omega
            have d1 : decide ((s[k].toNat : Int) ≤ 122) = true := by simp; omega
            have d2 : decide (65 ≤ (s[k].toNat : Int)) = false := by simp; omega
            have d3 : decide ((s[k].toNat : Int) ≤ 90) = true := by simp; omega
            have d4 : decide (48 ≤ (s[k].toNat : Int)) = false := by simp; omega
            have d5 : decide ((s[k].toNat : Int) ≤ 57) = true := by simp; omega
            have HG := hide (show tenByte s[k] = true by unfold tenByte; simp; omega)
            have hl1 : 45 ≤ (s[k].toNat : Int) := by omega
            have hl2 : (s[k].toNat : Int) ≤ 45 := by omega
            clear h
            have HS := hide (show (s.data.toList.take (k + 1)).all tenByte = true by rw [all_step _ s k hlt HA.out]; exact HG.out)
            go_wp2
            go_round
            case rel => exact ⟨k + 1, by omega, by go_num, HS.out⟩
            case measure => simp [intOf]; omega
          · have q45 : ((s[k].toNat : Int) == 45) = false := by simp; omega
            have p45 : ((s[k].toNat : Int) != 45) = true := by simp; omega
            have q95 : ((s[k].toNat : Int) == 95) = false := by simp; omega
            have p95 : ((s[k].toNat : Int) != 95) = true := by simp; omega
            have d0 : decide (97 ≤ (s[k].toNat : Int)) = false := by simp; omega
            have d1 : decide ((s[k].toNat : Int) ≤ 122) = true := by simp; omega
            have d2 : decide (65 ≤ (s[k].toNat : Int)) = false := by simp; omega
            have d3 : decide ((s[k].toNat : Int) ≤ 90) = true := by simp; omega
            have d4 : decide (48 ≤ (s[k].toNat : Int)) = false := by simp; omega
            have d5 : decide ((s[k].toNat : Int) ≤ 57) = true := by simp; omega
            have HG := hide (show tenByte s[k] = false by unfold tenByte; simp; omega)
            have hl : 45 < (s[k].toNat : Int) ∧ (s[k].toNat : Int) ≤ 47 := h
            obtain ⟨hl1, hl2⟩ := hl
            clear h
            have HS := hide (rten_no hlt HG.out)
            go_wp2
            go_ret
            exact ⟨ret_bool HS.out.symm, rfl⟩
          · have q45 : ((s[k].toNat : Int) == 45) = false := by simp; omega
            have p45 : ((s[k].toNat : Int) != 45) = true := by simp; omega
            have q95 : ((s[k].toNat : Int) == 95) = false := by simp; omega
            have p95 : ((s[k].toNat : Int) != 95) = true := by simp; omega
            have d0 : decide (97 ≤ (s[k].toNat : Int)) = false := by simp; omega
            have d1 : decide ((s[k].toNat : Int) ≤ 122) = true := by simp; omega
            have d2 : decide (65 ≤ (s[k].toNat : Int)) = false := by simp; omega
            have d3 : decide ((s[k].toNat : Int) ≤ 90) = true := by simp; omega
            have d4 : decide (48 ≤ (s[k].toNat : Int)) = true := by simp; omega
            have d5 : decide ((s[k].toNat : Int) ≤ 57) = true := by simp; omega
            have HG := hide (show tenByte s[k] = true by unfold tenByte; simp; omega)
            have hl : 48 ≤ (s[k].toNat : Int) ∧ (s[k].toNat : Int) ≤ 57 := h
            obtain ⟨hl1, hl2⟩ := hl
            clear h
            have HS := hide (show (s.data.toList.take (k + 1)).all tenByte = true by rw [all_step _ s k hlt HA.out]; exact HG.out)
            go_wp2
            go_round
            case rel => exact ⟨k + 1, by omega, by go_num, HS.out⟩
            case measure => simp [intOf]; omega
          · have q45 : ((s[k].toNat : Int) == 45) = false := by simp; omega
            have p45 : ((s[k].toNat : Int) != 45) = true := by simp; omega
            have q95 : ((s[k].toNat : Int) == 95) = false := by simp; omega
            have p95 : ((s[k].toNat : Int) != 95) = true := by simp; omega
            have d0 : decide (97 ≤ (s[k].toNat : Int)) = false := by simp; omega
            have d1 : decide ((s[k].toNat : Int) ≤ 122) = true := by simp; omega
            have d2 : decide (65 ≤ (s[k].toNat : Int)) = false := by simp; omega
            have d3 : decide ((s[k].toNat : Int) ≤ 90) = true := by simp; omega
            have d4 : decide (48 ≤ (s[k].toNat : Int)) = true := by simp; omega
            have d5 : decide ((s[k].toNat : Int) ≤ 57) = false := by simp; omega
            have HG := hide (show tenByte s[k] = false by unfold tenByte; simp; omega)
            have hl : 58 ≤ (s[k].toNat : Int) ∧ (s[k].toNat : Int) ≤ 64 := h
            obtain ⟨hl1, hl2⟩ := hl
            clear h
            have HS := hide (rten_no hlt HG.out)
            go_wp2
            go_ret
            exact ⟨ret_bool HS.out.symm, rfl⟩
          · have q45 : ((s[k].toNat : Int) == 45) = false := by simp; omega
            have p45 : ((s[k].toNat : Int) != 45) = true := by simp; omega
            have q95 : ((s[k].toNat : Int) == 95) = false := by simp; omega
            have p95 : ((s[k].toNat : Int) != 95) = true := by simp; omega
            have d0 : decide (97 ≤ (s[k].toNat : Int)) = false := by simp; omega
            have d1 : decide ((s[k].toNat : Int) ≤ 122) = true := by simp; omega
            have d2 : decide (65 ≤ (s[k].toNat : Int)) = true := by simp; omega
            have d3 : decide ((s[k].toNat : Int) ≤ 90) = true := by simp; omega
            have d4 : decide (48 ≤ (s[k].toNat : Int)) = true := by simp; omega
            have d5 : decide ((s[k].toNat : Int) ≤ 57) = false := by simp; omega
            have HG := hide (show tenByte s[k] = true by unfold tenByte; simp; omega)
            have hl : 65 ≤ (s[k].toNat : Int) ∧ (s[k].toNat : Int) ≤ 90 := h
            obtain ⟨hl1, hl2⟩ := hl
            clear h
            have HS := hide (show (s.data.toList.take (k + 1)).all tenByte = true by rw [all_step _ s k hlt HA.out]; exact HG.out)
            go_wp2
            go_round
            case rel => exact ⟨k + 1, by omega, by go_num, HS.out⟩
            case measure => simp [intOf]; omega
          · have q45 : ((s[k].toNat : Int) == 45) = false := by simp; omega
            have p45 : ((s[k].toNat : Int) != 45) = true := by simp; omega
            have q95 : ((s[k].toNat : Int) == 95) = false := by simp; omega
            have p95 : ((s[k].toNat : Int) != 95) = true := by simp; omega
            have d0 : decide (97 ≤ (s[k].toNat : Int)) = false := by simp; omega
            have d1 : decide ((s[k].toNat : Int) ≤ 122) = true := by simp; omega
            have d2 : decide (65 ≤ (s[k].toNat : Int)) = true := by simp; omega
            have d3 : decide ((s[k].toNat : Int) ≤ 90) = false := by simp; omega
            have d4 : decide (48 ≤ (s[k].toNat : Int)) = true := by simp; omega
            have d5 : decide ((s[k].toNat : Int) ≤ 57) = false := by simp; omega
            have HG := hide (show tenByte s[k] = false by unfold tenByte; simp; omega)
            have hl : 91 ≤ (s[k].toNat : Int) ∧ (s[k].toNat : Int) ≤ 94 := h
            obtain ⟨hl1, hl2⟩ := hl
            clear h
            have HS := hide (rten_no hlt HG.out)
            go_wp2
            go_ret
            exact ⟨ret_bool HS.out.symm, rfl⟩
          · have q45 : ((s[k].toNat : Int) == 45) = false := by simp; omega
            have p45 : ((s[k].toNat : Int) != 45) = true := by simp; omega
            have q95 : ((s[k].toNat : Int) == 95) = true := by simp; omega
            have p95 : ((s[k].toNat : Int) != 95) = false := by simp; omega
            have d0 : decide (97 ≤ (s[k].toNat : Int)) = false := by simp; omega
            have d1 : decide ((s[k].toNat : Int) ≤ 122) = true := by simp; omega
            have d2 : decide (65 ≤ (s[k].toNat : Int)) = true := by simp; omega
            have d3 : decide ((s[k].toNat : Int) ≤ 90) = false := by simp; omega
            have d4 : decide (48 ≤ (s[k].toNat : Int)) = true := by simp; omega
            have d5 : decide ((s[k].toNat : Int) ≤ 57) = false := by simp; omega
            have HG := hide (show tenByte s[k] = true by unfold tenByte; simp; omega)
            have hl1 : 95 ≤ (s[k].toNat : Int) := by omega
            have hl2 : (s[k].toNat : Int) ≤ 95 := by omega
            clear h
            have HS := hide (show (s.data.toList.take (k + 1)).all tenByte = true by rw [all_step _ s k hlt HA.out]; exact HG.out)
            go_wp2
            go_round
            case rel => exact ⟨k + 1, by omega, by go_num, HS.out⟩
            case measure => simp [intOf]; omega
          · have q45 : ((s[k].toNat : Int) == 45) = false := by simp; omega
            have p45 : ((s[k].toNat : Int) != 45) = true := by simp; omega
            have q95 : ((s[k].toNat : Int) == 95) = false := by simp; omega
            have p95 : ((s[k].toNat : Int) != 95) = true := by simp; omega
            have d0 : decide (97 ≤ (s[k].toNat : Int)) = false := by simp; omega
            have d1 : decide ((s[k].toNat : Int) ≤ 122) = true := by simp; omega
            have d2 : decide (65 ≤ (s[k].toNat : Int)) = true := by simp; omega
            have d3 : decide ((s[k].toNat : Int) ≤ 90) = false := by simp; omega
            have d4 : decide (48 ≤ (s[k].toNat : Int)) = true := by simp; omega
            have d5 : decide ((s[k].toNat : Int) ≤ 57) = false := by simp; omega
            have HG := hide (show tenByte s[k] = false by unfold tenByte; simp; omega)
            have hl1 : 96 ≤ (s[k].toNat : Int) := by omega
            have hl2 : (s[k].toNat : Int) ≤ 96 := by omega
            clear h
            have HS := hide (rten_no hlt HG.out)
            go_wp2
            go_ret
            exact ⟨ret_bool HS.out.symm, rfl⟩
          · have q45 : ((s[k].toNat : Int) == 45) = false := by simp; omega
            have p45 : ((s[k].toNat : Int) != 45) = true := by simp; omega
            have q95 : ((s[k].toNat : Int) == 95) = false := by simp; omega
            have p95 : ((s[k].toNat : Int) != 95) = true := by simp; omega
            have d0 : decide (97 ≤ (s[k].toNat : Int)) = true := by simp; omega
            have d1 : decide ((s[k].toNat : Int) ≤ 122) = true := by simp; omega
            have d2 : decide (65 ≤ (s[k].toNat : Int)) = true := by simp; omega
            have d3 : decide ((s[k].toNat : Int) ≤ 90) = false := by simp; omega
            have d4 : decide (48 ≤ (s[k].toNat : Int)) = true := by simp; omega
            have d5 : decide ((s[k].toNat : Int) ≤ 57) = false := by simp; omega
            have HG := hide (show tenByte s[k] = true by unfold tenByte; simp; omega)
            have hl : 97 ≤ (s[k].toNat : Int) ∧ (s[k].toNat : Int) ≤ 122 := h
            obtain ⟨hl1, hl2⟩ := hl
            clear h
            have HS := hide (show (s.data.toList.take (k + 1)).all tenByte = true by rw [all_step _ s k hlt HA.out]; exact HG.out)
            go_wp2
            go_round
            case rel => exact ⟨k + 1, by omega, by go_num, HS.out⟩
            case measure => simp [intOf]; omega
          · have q45 : ((s[k].toNat : Int) == 45) = false := by simp; omega
            have p45 : ((s[k].toNat : Int) != 45) = true := by simp; omega
            have q95 : ((s[k].toNat : Int) == 95) = false := by simp; omega
            have p95 : ((s[k].toNat : Int) != 95) = true := by simp; omega
            have d0 : decide (97 ≤ (s[k].toNat : Int)) = true := by simp; omega
            have d1 : decide ((s[k].toNat : Int) ≤ 122) = false := by simp; omega
            have d2 : decide (65 ≤ (s[k].toNat : Int)) = true := by simp; omega
            have d3 : decide ((s[k].toNat : Int) ≤ 90) = false := by simp; omega
            have d4 : decide (48 ≤ (s[k].toNat : Int)) = true := by simp; omega
            have d5 : decide ((s[k].toNat : Int) ≤ 57) = false := by simp; omega
            have HG := hide (show tenByte s[k] = false by unfold tenByte; simp; omega)
            have hl : 123 ≤ (s[k].toNat : Int) := h
            clear h
            have HS := hide (rten_no hlt HG.out)
            go_wp2
            go_ret
            exact ⟨ret_bool HS.out.symm, rfl⟩
        · have HE := hide (rten_all HA.out HF.out h4 (by omega))
          go_wp2
          go_ret
          exact ⟨ret_bool HE.out.symm, rfl⟩
    · have hx := hide (show tenOk s = false by unfold tenOk; rw [hf]; simp)
      go_enter Tryz.func23, Tryz.ntmps23
      go_wp2_with fail
      refine (prefix_dash _ _ hs).mono ?_
      rintro e w' ⟨rfl, rfl⟩
      go_wp2_with fail
      go_ret
      exact ⟨ret_bool hx.out.symm, rfl⟩

end Go.Proofs.YtfcbmajogmojbaaGreatDoor
namespace Go.Proofs.YtfcbmajogmojbaaGreatDoor
open Go.RowKit
set_option linter.unusedVariables false
set_option linter.unusedSimpArgs false

/-- A slice of strings that can be read, below block B. -/
def RdStrs (w : World) (B : Nat) (v : Value) (ks : List ByteArray) : Prop :=
  ks.length ≤ 9223372036854775807 ∧ (∀ k ∈ ks, k.size ≤ 9223372036854775807) ∧ ∃ (A : Option Addr) (c : Nat), v = .slice A ks.length c ∧ ks.length ≤ c ∧ c ≤ 9223372036854775807 ∧
    ∀ i (h : i < ks.length), ∃ b off, A = some ⟨b, off, none⟩ ∧ b < B ∧ w.cell? ⟨b, off + i, none⟩ = some (.string ks[i])

theorem RdStrs.below {w w' : World} {B : Nat} {v : Value} {ks : List ByteArray} (h : RdStrs w B v ks) (hb : Below B w w') : RdStrs w' B v ks := by
  obtain ⟨h0, h1, A, c, hv, h2, h3, hc⟩ := h
  refine ⟨h0, h1, A, c, hv, h2, h3, fun i hi => ?_⟩
  obtain ⟨b, off, e, hlt, c1⟩ := hc i hi
  exact ⟨b, off, e, hlt, by rw [hb.cell hlt]; exact c1⟩
theorem RdStrs.mono {w : World} {B B' : Nat} {v : Value} {ks : List ByteArray} (h : RdStrs w B v ks) (hB : B ≤ B') : RdStrs w B' v ks := by
  obtain ⟨h0, h1, A, c, hv, h2, h3, hc⟩ := h
  refine ⟨h0, h1, A, c, hv, h2, h3, fun i hi => ?_⟩
  obtain ⟨b, off, e, hlt, c1⟩ := hc i hi
  exact ⟨b, off, e, by omega, c1⟩
theorem RdStrs.form {w : World} {B : Nat} {v : Value} {ks : List ByteArray} (h : RdStrs w B v ks) : ∃ A c, v = .slice A ks.length c ∧ ks.length ≤ c ∧ c ≤ 9223372036854775807 := by
  obtain ⟨_, _, A, c, hv, h2, h3, _⟩ := h; exact ⟨A, c, hv, h2, h3⟩
theorem RdStrs.take {w : World} {B n c : Nat} {A : Option Addr} {ks : List ByteArray} (h : RdStrs w B (.slice A ks.length c) ks) (hn : n ≤ ks.length) : RdStrs w B (.slice A n c) (ks.take n) := by
  obtain ⟨h0, h1, A', c', hv, h2, h3, hc⟩ := h
  simp only [Value.slice.injEq] at hv
  obtain ⟨rfl, _, rfl⟩ := hv
  have hl : (ks.take n).length = n := by simp; omega
  refine ⟨by omega, fun k hk => h1 k (List.mem_of_mem_take hk), A, c, by rw [hl], by omega, h3, fun i hi => ?_⟩
  obtain ⟨b, off, e, hlt, c1⟩ := hc i (by omega)
  exact ⟨b, off, e, hlt, by rw [List.getElem_take]; exact c1⟩
theorem RdStrs.nil (w : World) (B : Nat) : RdStrs w B (.slice none 0 0) [] := ⟨by simp, by simp, none, 0, rfl, by simp, by simp, fun i h => by simp at h⟩

def hasB (ks : List ByteArray) (s : ByteArray) : Bool := ks.any fun x => s.toList == x.toList
def keysB (ks : List ByteArray) : Bool := decide (ks.length ≤ 32) && (List.range ks.length).all fun i => keyOk (ks.getD i ⟨#[]⟩) && !hasB (ks.take i) (ks.getD i ⟨#[]⟩)
def KG (ks : List ByteArray) (k : Nat) : Prop := ∀ i (h : i < ks.length), i < k → keyOk ks[i] = true ∧ hasB (ks.take i) ks[i] = false
theorem getD_at (ks : List ByteArray) (i : Nat) (h : i < ks.length) : ks.getD i ⟨#[]⟩ = ks[i] := by simp [List.getD, h]
theorem keysB_long {ks : List ByteArray} (h : 32 < ks.length) : keysB ks = false := by unfold keysB; simp; omega
theorem keysB_yes {ks : List ByteArray} {k : Nat} (h : ks.length ≤ 32) (hk : ks.length ≤ k) (hg : KG ks k) : keysB ks = true := by
  unfold keysB
  simp only [h, decide_true, Bool.true_and, List.all_eq_true, List.mem_range]
  intro i hi
  rw [getD_at ks i hi]
  obtain ⟨a, b⟩ := hg i hi (by omega)
  rw [a, b]; rfl
theorem keysB_no {ks : List ByteArray} {k : Nat} (hk : k < ks.length) (hg : keyOk ks[k] = false ∨ hasB (ks.take k) ks[k] = true) : keysB ks = false := by
  unfold keysB
  rw [Bool.and_eq_false_iff]
  right
  rw [List.all_eq_false]
  refine ⟨k, by simpa using hk, ?_⟩
  rw [getD_at ks k hk]
  rcases hg with h | h <;> simp [h]
theorem kg_zero (ks : List ByteArray) : KG ks 0 := fun i _ h => absurd h (Nat.not_lt_zero i)
theorem kg_step {ks : List ByteArray} {k : Nat} (h : KG ks k) (hk : k < ks.length) (h1 : keyOk ks[k] = true) (h2 : hasB (ks.take k) ks[k] = false) : KG ks (k + 1) := by
  intro i hi hik
  rcases Nat.lt_or_ge i k with h' | h'
  · exact h i hi h'
  · obtain rfl : i = k := by omega
    exact ⟨h1, h2⟩

def IdxOk (b : Bool) (w : World) (e : Ending) (w' : World) : Prop := ∃ n : Int, decide (0 ≤ n) = b ∧ e = .returned (.int .i64 n) ∧ w = w'
theorem hasB_none {ks : List ByteArray} {s : ByteArray} (h : ∀ j (hj : j < ks.length), (s.toList == ks[j].toList) = false) : hasB ks s = false := by
  unfold hasB
  rw [List.any_eq_false]
  intro x hx
  obtain ⟨j, hj, rfl⟩ := List.getElem_of_mem hx
  simpa using h j hj
theorem hasB_some {ks : List ByteArray} {s : ByteArray} {j : Nat} (hj : j < ks.length) (h : (s.toList == ks[j].toList) = true) : hasB ks s = true := by
  unfold hasB
  rw [List.any_eq_true]
  exact ⟨ks[j], List.getElem_mem hj, h⟩

set_option maxHeartbeats 1000000 in
theorem index_any (v : Value) (ks : List ByteArray) (s : ByteArray) (w : World) (B : Nat) (hr : RdStrs w B v ks) :
    Calls Tryz.prog 44 #[v, .string s] w (IdxOk (hasB ks s) w) := by
  obtain ⟨h0, hz, A, c, rfl, h2, h3, hc⟩ := hr
  have HC := hide hc
  clear hc hz
  go_enter Tryz.func44, Tryz.ntmps44
  go_wp2
  go_loop [8] (fun i => ∃ k : Nat, k ≤ ks.length ∧ i = .int .i64 k ∧ Hid (∀ j (hj : j < ks.length), j < k → (s.toList == ks[j].toList) = false)) (fun i => ks.length - (intOf i).toNat)
  case atStart => exact ⟨0, Nat.zero_le _, rfl, fun j _ h => absurd h (Nat.not_lt_zero j)⟩
  case round =>
    obtain ⟨k, hk, rfl, HA⟩ := hrel
    by_cases hlt : k < ks.length
    · obtain ⟨b, off, rfl, hbl, c1⟩ := HC.out k hlt
      cases he : (s.toList == ks[k].toList)
      · have HS := hide (show ∀ j (hj : j < ks.length), j < k + 1 → (s.toList == ks[j].toList) = false from fun j hj hjk => by
          rcases Nat.lt_or_ge j k with h' | h'
          · exact HA.out j hj h'
          · obtain rfl : j = k := by omega
            exact he)
        go_wp2
        go_round
        case rel => exact ⟨k + 1, by omega, by go_num, HS⟩
        case measure => simp [intOf]; omega
      · have HS := hide (hasB_some hlt he)
        go_wp2
        go_ret
        exact ⟨k, by rw [HS.out]; simp, rfl, rfl⟩
    · have HS := hide (hasB_none (ks := ks) (s := s) fun j hj => HA.out j hj (by omega))
      go_wp2
      go_ret
      exact ⟨-1, by rw [HS.out]; rfl, rfl, rfl⟩

set_option maxHeartbeats 1000000 in
theorem contains_any (v : Value) (ks : List ByteArray) (s : ByteArray) (w : World) (B : Nat) (hr : RdStrs w B v ks) :
    Calls Tryz.prog 25 #[v, .string s] w (BoolAt (hasB ks s) w) := by
  go_enter Tryz.func25, Tryz.ntmps25
  go_wp2_with fail
  refine (index_any v ks s _ B hr).mono ?_
  rintro e w' ⟨n, hn, rfl, rfl⟩
  have HN := hide hn
  clear hn
  go_wp2
  go_ret
  exact ⟨ret_bool HN.out, rfl⟩

theorem below_drew {B : Nat} {a w : World} (h : Below B a w) : Below B a w.drew := h.drew

end Go.Proofs.YtfcbmajogmojbaaGreatDoor
namespace Go.Proofs.YtfcbmajogmojbaaGreatDoor
open Go.RowKit
set_option linter.unusedVariables false
set_option linter.unusedSimpArgs false

def someTag (r : Tag) : Bool := !(r.1.toList == []) || r.2
theorem empty_no {s : ByteArray} (h : ¬ s = ⟨#[]⟩) : (s.toList == []) = false := by
  rw [ByteArray.toList_eq]
  simp only [beq_eq_false_iff_ne, ne_eq]
  exact fun e => h (by apply ByteArray.ext; exact Array.toList_inj.1 e)
theorem empty_no' {s : ByteArray} (h : ¬ s = ⟨#[]⟩) : s.toList.isEmpty = false := by
  have := empty_no h
  cases hl : s.toList with
  | nil => rw [hl] at this; simp at this
  | cons a l => rfl
theorem some_zero : someTag (⟨#[]⟩, false) = false := by simp [someTag, ByteArray.toList_eq]
theorem some_weak (s : ByteArray) : someTag (s, true) = true := by simp [someTag]
theorem some_text {s : ByteArray} {b : Bool} (h : ¬ s = ⟨#[]⟩) : someTag (s, b) = true := by simp [someTag, empty_no h]

def strictB (t : Tag) : Bool := !someTag t || (tagOk t.1 && !t.2)
def spanOk (a b : Int) : Bool := decide (0 ≤ a ∧ a ≤ b ∧ b ≤ 4611686018427387904)
def tickOk (n : Int) : Bool := decide (0 ≤ n ∧ n ≤ 1099511627776)

set_option maxHeartbeats 1000000 in
theorem span_right (a b : Int) (w : World) : Calls Tryz.prog 34 #[.agg #[.int .i64 a, .int .i64 b]] w (BoolOk (spanOk a b) w) := by
  by_cases h1 : 0 ≤ a
  · by_cases h2 : a ≤ b
    · by_cases h3 : b ≤ 4611686018427387904
      · have hx := hide (show spanOk a b = true by unfold spanOk; simp; omega)
        have d1 : decide (0 ≤ a) = true := by simpa using h1
        have d2 : decide (a ≤ b) = true := by simpa using h2
        have d3 : decide (b ≤ 4611686018427387904) = true := by simpa using h3
        go_enter Tryz.func34, Tryz.ntmps34
        go_wp2
        go_ret
        exact ⟨ret_bool hx.out.symm, (Below.refl _ _).alloc (Nat.le_refl _) _⟩
      · have hx := hide (show spanOk a b = false by unfold spanOk; simp; omega)
        have d1 : decide (0 ≤ a) = true := by simpa using h1
        have d2 : decide (a ≤ b) = true := by simpa using h2
        have d3 : decide (b ≤ 4611686018427387904) = false := by simpa using h3
        go_enter Tryz.func34, Tryz.ntmps34
        go_wp2
        go_ret
        exact ⟨ret_bool hx.out.symm, (Below.refl _ _).alloc (Nat.le_refl _) _⟩
    · have hx := hide (show spanOk a b = false by unfold spanOk; simp; omega)
      have d1 : decide (0 ≤ a) = true := by simpa using h1
      have d2 : decide (a ≤ b) = false := by simpa using h2
      go_enter Tryz.func34, Tryz.ntmps34
      go_wp2
      go_ret
      exact ⟨ret_bool hx.out.symm, (Below.refl _ _).alloc (Nat.le_refl _) _⟩
  · have hx := hide (show spanOk a b = false by unfold spanOk; simp; omega)
    have d1 : decide (0 ≤ a) = false := by simpa using h1
    go_enter Tryz.func34, Tryz.ntmps34
    go_wp2
    go_ret
    exact ⟨ret_bool hx.out.symm, (Below.refl _ _).alloc (Nat.le_refl _) _⟩

def IntAt (v : Int) (w : World) (e : Ending) (w' : World) : Prop := e = .returned (.int .i64 v) ∧ w = w'
end Go.Proofs.YtfcbmajogmojbaaGreatDoor
