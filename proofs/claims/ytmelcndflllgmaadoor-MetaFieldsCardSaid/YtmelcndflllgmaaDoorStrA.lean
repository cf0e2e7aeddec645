/-
  Loops over a string's bytes: names of objects, keys, tenants' names: the program's functions and the reference's.
-/
import Derived.Test.YtmelcndflllgmaaDoorTagA
namespace Go.Proofs.YtmelcndflllgmaaDoor
open Go.RowKit
set_option linter.unusedVariables false
set_option linter.unusedSimpArgs false

def BoolAt (b : Bool) (w : World) (e : Ending) (w' : World) : Prop := e = .returned (.bool b) ∧ w = w'
def keyByte (b : UInt8) : Bool := decide (33 ≤ (b.toNat : Int) ∧ (b.toNat : Int) ≤ 126)
def keyOk (s : ByteArray) : Bool := decide (1 ≤ s.size ∧ s.size ≤ 200) && s.data.toList.all keyByte
def firstIs (s : ByteArray) (n : Int) : Bool := match s.data.toList with
  | [] => false
  | b :: _ => (b.toNat : Int) == n
def objOk (s : ByteArray) : Bool := keyOk s && firstIs s 47
def tenByte (b : UInt8) : Bool := decide ((97 ≤ (b.toNat : Int) ∧ (b.toNat : Int) ≤ 122) ∨ (65 ≤ (b.toNat : Int) ∧ (b.toNat : Int) ≤ 90) ∨ (48 ≤ (b.toNat : Int) ∧ (b.toNat : Int) ≤ 57) ∨ (b.toNat : Int) = 45 ∨ (b.toNat : Int) = 95)
def tenOk (s : ByteArray) : Bool := decide (s.size ≤ 40) && !firstIs s 45 && s.data.toList.all tenByte
theorem firstIs_at (s : ByteArray) (n : Int) (h : 0 < s.size) : firstIs s n = ((s[0].toNat : Int) == n) := by
  unfold firstIs
  have e : s.data.toList[0]? = some s[0] := by
    rw [List.getElem?_eq_getElem (by simpa using h)]; rfl
  cases hl : s.data.toList with
  | nil => rw [hl] at e; simp at e
  | cons b l => rw [hl] at e; simp at e; rw [e]
theorem firstIs_no (s : ByteArray) (n : Int) (h : s.size = 0) : firstIs s n = false := by
  unfold firstIs
  have : s.data.toList = [] := by
    have : s.data.toList.length = 0 := by simpa using h
    exact List.length_eq_zero_iff.1 this
  rw [this]

set_option maxHeartbeats 1000000 in
theorem mkey (s : ByteArray) (w : World) (hs : s.size ≤ 9223372036854775807) :
    Calls Tryd.prog 23 #[.string s] w (BoolAt (keyOk s) w) := by
  by_cases h1 : s.size < 1
  · have hx := hide (show keyOk s = false by unfold keyOk; simp; omega)
    go_enter Tryd.func23, Tryd.ntmps23
    go_wp2
    go_ret
    exact ⟨ret_bool hx.out.symm, rfl⟩
  · by_cases h2 : 200 < s.size
    · have hx := hide (show keyOk s = false by unfold keyOk; simp; omega)
      go_enter Tryd.func23, Tryd.ntmps23
      go_wp2
      go_ret
      exact ⟨ret_bool hx.out.symm, rfl⟩
    · have h3 : 1 ≤ s.size := by omega
      have h4 : s.size ≤ 200 := by omega
      clear h1 h2 hs
      have hx := hide (show keyOk s = s.data.toList.all keyByte by unfold keyOk; simp [h3, h4])
      go_enter Tryd.func23, Tryd.ntmps23
      go_wp2
      go_loop [14] (fun i => ∃ k : Nat, k ≤ s.size ∧ i = .int .i64 k ∧ (s.data.toList.take k).all keyByte = true) (fun i => s.size - (intOf i).toNat)
      case atStart => exact ⟨0, Nat.zero_le _, rfl, rfl⟩
      case round =>
        obtain ⟨k, hk, rfl, ha⟩ := hrel
        have HA := hide ha
        clear ha
        by_cases hlt : k < s.size
        · have hb : (s[k].toNat : Int) ≤ 255 := by have := s[k].toNat_lt; omega
          by_cases hg : 33 ≤ (s[k].toNat : Int) ∧ (s[k].toNat : Int) ≤ 126
          · have HS := hide (show (s.data.toList.take (k + 1)).all keyByte = true by rw [all_step _ s k hlt HA.out]; unfold keyByte; simpa using hg)
            obtain ⟨g1, g3⟩ := hg
            go_wp2
            go_round
            case rel => exact ⟨k + 1, by omega, by go_num, HS.out⟩
            case measure => simp [intOf]; omega
          · have HS := hide (show s.data.toList.all keyByte = false from all_no _ s k hlt (by unfold keyByte; simpa using hg))
            by_cases g1 : (s[k].toNat : Int) < 33
            · clear hg
              go_wp2
              go_ret
              exact ⟨ret_bool (by rw [hx.out, HS.out]; try simp), rfl⟩
            · have g5 : 126 < (s[k].toNat : Int) := by omega
              clear hg
              go_wp2
              go_ret
              exact ⟨ret_bool (by rw [hx.out, HS.out]; try simp), rfl⟩
        · have HE := hide (all_whole keyByte s k (by omega))
          go_wp2
          go_ret
          exact ⟨ret_bool (by rw [hx.out, ← HE.out, HA.out]), rfl⟩

set_option maxHeartbeats 1000000 in
theorem rkey (s : ByteArray) (w : World) (hs : s.size ≤ 9223372036854775807) :
    Calls Tryd.prog 46 #[.string s] w (BoolAt (keyOk s) w) := by
  go_enter Tryd.func46, Tryd.ntmps46
  go_wp2
  go_loop [3] (fun i => ∃ k : Nat, k ≤ s.size ∧ i = .int .i64 k ∧ (s.data.toList.take k).all keyByte = true) (fun i => s.size - (intOf i).toNat)
  case atStart => exact ⟨0, Nat.zero_le _, rfl, rfl⟩
  case round =>
    obtain ⟨k, hk, rfl, ha⟩ := hrel
    have HA := hide ha
    clear ha
    by_cases hlt : k < s.size
    · have hb : (s[k].toNat : Int) ≤ 255 := by have := s[k].toNat_lt; omega
      by_cases hg : 33 ≤ (s[k].toNat : Int) ∧ (s[k].toNat : Int) ≤ 126
      · have HS := hide (show (s.data.toList.take (k + 1)).all keyByte = true by rw [all_step _ s k hlt HA.out]; unfold keyByte; simpa using hg)
        obtain ⟨g1, g3⟩ := hg
        go_wp2
        go_round
        case rel => exact ⟨k + 1, by omega, by go_num, HS.out⟩
        case measure => simp [intOf]; omega
      · have HS := hide (show s.data.toList.all keyByte = false from all_no _ s k hlt (by unfold keyByte; simpa using hg))
        by_cases g1 : (s[k].toNat : Int) < 33
        · clear hg
          go_wp2
          go_ret
          exact ⟨ret_bool (by rw [keyOk, HS.out]; try simp), rfl⟩
        · have g5 : 126 < (s[k].toNat : Int) := by omega
          clear hg
          go_wp2
          go_ret
          exact ⟨ret_bool (by rw [keyOk, HS.out]; try simp), rfl⟩
    · have HE := hide (all_whole keyByte s k (by omega))
      have HX := hide (show keyOk s = decide (1 ≤ s.size ∧ s.size ≤ 200) by unfold keyOk; rw [← HE.out, HA.out]; simp)
      by_cases h1 : 0 < s.size
      · by_cases h2 : s.size ≤ 200
        · go_wp2
          go_ret
          exact ⟨ret_bool (by rw [HX.out, Bool.eq_iff_iff]; simp; omega), rfl⟩
        · go_wp2
          go_ret
          exact ⟨ret_bool (by rw [HX.out, Bool.eq_iff_iff]; simp; omega), rfl⟩
      · go_wp2
        go_ret
        exact ⟨ret_bool (by rw [HX.out]; simp; omega), rfl⟩

theorem ext_one (s : ByteArray) (h : 0 < s.size) : (s.extract 0 1).toList = [s[0]] := by
  rw [ByteArray.toList_eq]
  have e : (s.extract 0 1).data.toList = s.data.toList.take 1 := by simp
  rw [e, take_snocS s 0 h]; rfl
theorem one_byte (b c : UInt8) (n : Int) (h : (c.toNat : Int) = n) : ([b] == [c]) = ((b.toNat : Int) == n) := by
  subst h
  rw [Bool.eq_iff_iff]
  simp
  rw [← UInt8.toNat_inj]
  omega

set_option maxHeartbeats 1000000 in
theorem prefix_dash (s : ByteArray) (w : World) (hs : s.size ≤ 9223372036854775807) :
    Calls Tryd.prog 44 #[.string s, .string ⟨#[45]⟩] w (BoolAt (firstIs s 45) w) := by
  by_cases h0 : s.size = 0
  · have hx := hide (firstIs_no s 45 h0)
    have h1 : s.size < 1 := by omega
    clear h0 hs
    go_enter Tryd.func44, Tryd.ntmps44
    go_wp2
    go_ret
    exact ⟨ret_bool hx.out.symm, rfl⟩
  · have h1 : 0 < s.size := by omega
    have h2 : 1 ≤ s.size := h1
    have hx := hide (firstIs_at s 45 h1)
    clear h0
    go_enter Tryd.func44, Tryd.ntmps44
    go_wp2
    go_ret
    exact ⟨ret_bool (by rw [hx.out, ext_one s h1]; exact one_byte _ 45 45 rfl), rfl⟩

def Rten (s : ByteArray) (k : Nat) : Prop := (s.data.toList.take k).all tenByte = true ∧ (0 < k → firstIs s 45 = false)
theorem rten_zero (s : ByteArray) : Rten s 0 := ⟨rfl, fun h => absurd h (Nat.lt_irrefl 0)⟩
theorem rten_step {s : ByteArray} {k : Nat} (h : Rten s k) (hk : k < s.size) (hg : tenByte s[k] = true) (hn : k = 0 → ¬ (s[k].toNat : Int) = 45) : Rten s (k + 1) := by
  refine ⟨by rw [all_step _ s k hk h.1]; exact hg, fun _ => ?_⟩
  rcases Nat.eq_zero_or_pos k with rfl | hp
  · rw [firstIs_at s 45 hk]; simpa using hn rfl
  · exact h.2 hp
theorem rten_no {s : ByteArray} {k : Nat} (hk : k < s.size) (hg : tenByte s[k] = false) : tenOk s = false := by
  unfold tenOk; rw [all_no _ s k hk hg, Bool.and_false]
theorem rten_dash {s : ByteArray} (hk : 0 < s.size) (hg : (s[0].toNat : Int) = 45) : tenOk s = false := by
  unfold tenOk; rw [firstIs_at s 45 hk, hg]; simp
theorem rten_whole {s : ByteArray} {k : Nat} (h : Rten s k) (hk : s.size ≤ k) : tenOk s = decide (s.size ≤ 40) := by
  unfold tenOk
  rw [← all_whole tenByte s k hk, h.1]
  rcases Nat.eq_zero_or_pos k with rfl | hp
  · rw [firstIs_no s 45 (by omega)]; simp
  · rw [h.2 hp]; simp
theorem rten_all {s : ByteArray} {k : Nat} (ha : (s.data.toList.take k).all tenByte = true) (hf : firstIs s 45 = false) (h4 : s.size ≤ 40) (hk : s.size ≤ k) : tenOk s = true := by
  unfold tenOk; rw [← all_whole tenByte s k hk, ha, hf]; simp [h4]

set_option maxHeartbeats 4000000 in
theorem tenant_any (s : ByteArray) (w : World) (hs : s.size ≤ 9223372036854775807) :
    Calls Tryd.prog 22 #[.string s] w (BoolAt (tenOk s) w) := by
  by_cases h1 : 40 < s.size
  · have hx := hide (show tenOk s = false by unfold tenOk; simp; omega)
    go_enter Tryd.func22, Tryd.ntmps22
    go_wp2_with fail
    go_ret
    exact ⟨ret_bool hx.out.symm, rfl⟩
  · have h4 : s.size ≤ 40 := by omega
    clear h1
    cases hf : firstIs s 45
    · go_enter Tryd.func22, Tryd.ntmps22
      go_wp2_with fail
      refine (prefix_dash _ _ hs).mono ?_
      rintro e w' ⟨rfl, rfl⟩
      go_wp2_with fail
      have HF := hide hf
      clear hf hs
      go_loop [15] (fun i => ∃ k : Nat, k ≤ s.size ∧ i = .int .i64 k ∧ (s.data.toList.take k).all tenByte = true) (fun i => s.size - (intOf i).toNat)
      case atStart => exact ⟨0, Nat.zero_le _, rfl, rfl⟩
      case round =>
        obtain ⟨k, hk, rfl, ha⟩ := hrel
        have HA := hide ha
        clear ha
        by_cases hlt : k < s.size
        · have hb : (s[k].toNat : Int) ≤ 255 := by have := s[k].toNat_lt; omega
          have key : ((s[k].toNat : Int) < 45) ∨ ((s[k].toNat : Int) = 45) ∨ (45 < (s[k].toNat : Int) ∧ (s[k].toNat : Int) ≤ 47) ∨ (48 ≤ (s[k].toNat : Int) ∧ (s[k].toNat : Int) ≤ 57) ∨ (58 ≤ (s[k].toNat : Int) ∧ (s[k].toNat : Int) ≤ 64) ∨ (65 ≤ (s[k].toNat : Int) ∧ (s[k].toNat : Int) ≤ 90) ∨ (91 ≤ (s[k].toNat : Int) ∧ (s[k].toNat : Int) ≤ 94) ∨ ((s[k].toNat : Int) = 95) ∨ ((s[k].toNat : Int) = 96) ∨ (97 ≤ (s[k].toNat : Int) ∧ (s[k].toNat : Int) ≤ 122) ∨ (123 ≤ (s[k].toNat : Int)) := by omega
          rcases key with h | h | h | h | h | h | h | h | h | h | h
          · have q45 : ((s[k].toNat : Int) == 45) = false := by simp; omega
            have p45 : ((s[k].toNat : Int) != 45) = true := by simp; omega
            have q95 : ((s[k].toNat : Int) == 95) = false := by simp; omega
            have p95 : ((s[k].toNat : Int) != 95) = true := by simp; omega
            have d0 : decide (97 ≤ (s[k].toNat : Int)) = false := by simp; omega
            have d1 : decide ((s[k].toNat : Int) ≤ 122) = true := by simp; omega
            have d2 : decide (65 ≤ (s[k].toNat : Int)) = false := by simp; omega
            have d3 : decide ((s[k].toNat : Int) ≤ 90) = true := by simp; omega
            have d4 : decide (48 ≤ (s[k].toNat : Int)) = false := by simp; omega
            have d5 : decide ((s[k].toNat : Int) ≤ 57) = true := by simp; omega
            have HG := hide (show tenByte s[k] = false by unfold tenByte; simp; omega)
            have hl : (s[k].toNat : Int) < 45 := h
            clear h
            have HS := hide (rten_no hlt HG.out)
            go_wp2
            go_ret
            exact ⟨ret_bool HS.out.symm, rfl⟩
          · have q45 : ((s[k].toNat : Int) == 45) = true := by simp; omega
            have p45 : ((s[k].toNat : Int) != 45) = false := by simp; omega
            have q95 : ((s[k].toNat : Int) == 95) = false := by simp; omega
            have p95 : ((s[k].toNat : Int) != 95) = true := by simp; omega
            have d0 : decide (97 ≤ (s[k].toNat : Int)) = false := by simp; omega
            have d1 : decide ((s[k].toNat : Int) ≤ 122) = true := by simp; omega
            have d2 : decide (65 ≤ (s[k].toNat : Int)) = false := by simp; omega
            have d3 : decide ((s[k].toNat : Int) ≤ 90) = true := by simp; omega
            have d4 : decide (48 ≤ (s[k].toNat : Int)) = false := by simp; omega
            have d5 : decide ((s[k].toNat : Int) ≤ 57) = true := by simp; omega
            have HG := hide (show tenByte s[k] = true by unfold tenByte; simp; omega)
            have hl1 : 45 ≤ (s[k].toNat : Int) := by omega
            have hl2 : (s[k].toNat : Int) ≤ 45 := by omega
            clear h
            have HS := hide (show (s.data.toList.take (k + 1)).all tenByte = true by rw [all_step _ s k hlt HA.out]; exact HG.out)
            go_wp2
            go_round
            case rel => exact ⟨k + 1, by omega, by go_num, HS.out⟩
            case measure => simp [intOf]; omega
          · have q45 : ((s[k].toNat : Int) == 45) = false := by simp; omega
            have p45 : ((s[k].toNat : Int) != 45) = true := by simp; omega
            have q95 : ((s[k].toNat : Int) == 95) = false := by simp; omega
            have p95 : ((s[k].toNat : Int) != 95) = true := by simp; omega
            have d0 : decide (97 ≤ (s[k].toNat : Int)) = false := by simp; omega
            have d1 : decide ((s[k].toNat : Int) ≤ 122) = true := by simp; omega
            have d2 : decide (65 ≤ (s[k].toNat : Int)) = false := by simp; omega
            have d3 : decide ((s[k].toNat : Int) ≤ 90) = true := by simp; omega
            have d4 : decide (48 ≤ (s[k].toNat : Int)) = false := by simp; omega
            have d5 : decide ((s[k].toNat : Int) ≤ 57) = true := by simp; omega
            have HG := hide (show tenByte s[k] = false by unfold tenByte; simp; omega)
            have hl : 45 < (s[k].toNat : Int) ∧ (s[k].toNat : Int) ≤ 47 := h
            obtain ⟨hl1, hl2⟩ := hl
            clear h
            have HS := hide (rten_no hlt HG.out)
            go_wp2
            go_ret
            exact ⟨ret_bool HS.out.symm, rfl⟩
          · have q45 : ((s[k].toNat : Int) == 45) = false := by simp; omega
            have p45 : ((s[k].toNat : Int) != 45) = true := by simp; omega
            have q95 : ((s[k].toNat : Int) == 95) = false := by simp; omega
            have p95 : ((s[k].toNat : Int) != 95) = true := by simp; omega
            have d0 : decide (97 ≤ (s[k].toNat : Int)) = false := by simp; omega
            have d1 : decide ((s[k].toNat : Int) ≤ 122) = true := by simp; omega
            have d2 : decide (65 ≤ (s[k].toNat : Int)) = false := by simp; omega
            have d3 : decide ((s[k].toNat : Int) ≤ 90) = true := by simp; omega
            have d4 : decide (48 ≤ (s[k].toNat : Int)) = true := by simp; omega
            have d5 : decide ((s[k].toNat : Int) ≤ 57) = true := by simp; omega
            have HG := hide (show tenByte s[k] = true by unfold tenByte; simp; omega)
            have hl : 48 ≤ (s[k].toNat : Int) ∧ (s[k].toNat : Int) ≤ 57 := h
            obtain ⟨hl1, hl2⟩ := hl
            clear h
            have HS := hide (show (s.data.toList.take (k + 1)).all tenByte = true by rw [all_step _ s k hlt HA.out]; exact HG.out)
            go_wp2
            go_round
            case rel => exact ⟨k + 1, by omega, by go_num, HS.out⟩
            case measure => simp [intOf]; omega
          · have q45 : ((s[k].toNat : Int) == 45) = false := by simp; omega
            have p45 : ((s[k].toNat : Int) != 45) = true := by simp; omega
            have q95 : ((s[k].toNat : Int) == 95) = false := by simp; omega
            have p95 : ((s[k].toNat : Int) != 95) = true := by simp; omega
            have d0 : decide (97 ≤ (s[k].toNat : Int)) = false := by simp; omega
            have d1 : decide ((s[k].toNat : Int) ≤ 122) = true := by simp; omega
            have d2 : decide (65 ≤ (s[k].toNat : Int)) = false := by simp; omega
            have d3 : decide ((s[k].toNat : Int) ≤ 90) = true := by simp; omega
            have d4 : decide (48 ≤ (s[k].toNat : Int)) = true := by simp; omega
            have d5 : decide ((s[k].toNat : Int) ≤ 57) = false := by simp; omega
            have HG := hide (show tenByte s[k] = false by unfold tenByte; simp; omega)
            have hl : 58 ≤ (s[k].toNat : Int) ∧ (s[k].toNat : Int) ≤ 64 := h
            obtain ⟨hl1, hl2⟩ := hl
            clear h
            have HS := hide (rten_no hlt HG.out)
            go_wp2
            go_ret
            exact ⟨ret_bool HS.out.symm, rfl⟩
          · have q45 : ((s[k].toNat : Int) == 45) = false := by simp; omega
            have p45 : ((s[k].toNat : Int) != 45) = true := by simp; omega
            have q95 : ((s[k].toNat : Int) == 95) = false := by simp; omega
            have p95 : ((s[k].toNat : Int) != 95) = true := by simp; omega
            have d0 : decide (97 ≤ (s[k].toNat : Int)) = false := by simp; omega
            have d1 : decide ((s[k].toNat : Int) ≤ 122) = true := by simp; omega
            have d2 : decide (65 ≤ (s[k].toNat : Int)) = true := by simp; omega
            have d3 : decide ((s[k].toNat : Int) ≤ 90) = true := by simp; omega
            have d4 : decide (48 ≤ (s[k].toNat : Int)) = true := by simp; omega
            have d5 : decide ((s[k].toNat : Int) ≤ 57) = false := by simp; omega
            have HG := hide (show tenByte s[k] = true by unfold tenByte; simp; omega)
            have hl : 65 ≤ (s[k].toNat : Int) ∧ (s[k].toNat : Int) ≤ 90 := h
            obtain ⟨hl1, hl2⟩ := hl
            clear h
            have HS := hide (show (s.data.toList.take (k + 1)).all tenByte = true by rw [all_step _ s k hlt HA.out]; exact HG.out)
            go_wp2
            go_round
            case rel => exact ⟨k + 1, by omega, by go_num, HS.out⟩
            case measure => simp [intOf]; omega
          · have q45 : ((s[k].toNat : Int) == 45) = false := by simp; omega
            have p45 : ((s[k].toNat : Int) != 45) = true := by simp; omega
            have q95 : ((s[k].toNat : Int) == 95) = false := by simp; omega
            have p95 : ((s[k].toNat : Int) != 95) = true := by simp; omega
            have d0 : decide (97 ≤ (s[k].toNat : Int)) = false := by simp; omega
            have d1 : decide ((s[k].toNat : Int) ≤ 122) = true := by simp; omega
            have d2 : decide (65 ≤ (s[k].toNat : Int)) = true := by simp; omega
            have d3 : decide ((s[k].toNat : Int) ≤ 90) = false := by simp; omega
            have d4 : decide (48 ≤ (s[k].toNat : Int)) = true := by simp; omega
            have d5 : decide ((s[k].toNat : Int) ≤ 57) = false := by simp; omega
            have HG := hide (show tenByte s[k] = false by unfold tenByte; simp; omega)
            have hl : 91 ≤ (s[k].toNat : Int) ∧ (s[k].toNat : Int) ≤ 94 := h
            obtain ⟨hl1, hl2⟩ := hl
            clear h
            have HS := hide (rten_no hlt HG.out)
            go_wp2
            go_ret
            exact ⟨ret_bool HS.out.symm, rfl⟩
          · have q45 : ((s[k].toNat : Int) == 45) = false := by simp; omega
            have p45 : ((s[k].toNat : Int) != 45) = true := by simp; omega
            have q95 : ((s[k].toNat : Int) == 95) = true := by simp; omega
            have p95 : ((s[k].toNat : Int) != 95) = false := by simp; omega
            have d0 : decide (97 ≤ (s[k].toNat : Int)) = false := by simp; omega
            have d1 : decide ((s[k].toNat : Int) ≤ 122) = true := by simp; omega
            have d2 : decide (65 ≤ (s[k].toNat : Int)) = true := by simp; omega
            have d3 : decide ((s[k].toNat : Int) ≤ 90) = false := by simp; omega
            have d4 : decide (48 ≤ (s[k].toNat : Int)) = true := by simp; omega
            have d5 : decide ((s[k].toNat : Int) ≤ 57) = false := by simp; omega
            have HG := hide (show tenByte s[k] = true by unfold tenByte; simp; omega)
            have hl1 : 95 ≤ (s[k].toNat : Int) := by omega
            have hl2 : (s[k].toNat : Int) ≤ 95 := by omega
            clear h
            have HS := hide (show (s.data.toList.take (k + 1)).all tenByte = true by rw [all_step _ s k hlt HA.out]; exact HG.out)
            go_wp2
            go_round
            case rel => exact ⟨k + 1, by omega, by go_num, HS.out⟩
            case measure => simp [intOf]; omega
          · have q45 : ((s[k].toNat : Int) == 45) = false := by simp; omega
            have p45 : ((s[k].toNat : Int) != 45) = true := by simp; omega
            have q95 : ((s[k].toNat : Int) == 95) = false := by simp; omega
            have p95 : ((s[k].toNat : Int) != 95) = true := by simp; omega
            have d0 : decide (97 ≤ (s[k].toNat : Int)) = false := by simp; omega
            have d1 : decide ((s[k].toNat : Int) ≤ 122) = true := by simp; omega
            have d2 : decide (65 ≤ (s[k].toNat : Int)) = true := by simp; omega
            have d3 : decide ((s[k].toNat : Int) ≤ 90) = false := by simp; omega
            have d4 : decide (48 ≤ (s[k].toNat : Int)) = true := by simp; omega
            have d5 : decide ((s[k].toNat : Int) ≤ 57) = false := by simp; omega
            have HG := hide (show tenByte s[k] = false by unfold tenByte; simp; omega)
            have hl1 : 96 ≤ (s[k].toNat : Int) := by omega
            have hl2 : (s[k].toNat : Int) ≤ 96 := by omega
            clear h
            have HS := hide (rten_no hlt HG.out)
            go_wp2
            go_ret
            exact ⟨ret_bool HS.out.symm, rfl⟩
          · have q45 : ((s[k].toNat : Int) == 45) = false := by simp; omega
            have p45 : ((s[k].toNat : Int) != 45) = true := by simp; omega
            have q95 : ((s[k].toNat : Int) == 95) = false := by simp; omega
            have p95 : ((s[k].toNat : Int) != 95) = true := by simp; omega
            have d0 : decide (97 ≤ (s[k].toNat : Int)) = true := by simp; omega
            have d1 : decide ((s[k].toNat : Int) ≤ 122) = true := by simp; omega
            have d2 : decide (65 ≤ (s[k].toNat : Int)) = true := by simp; omega
            have d3 : decide ((s[k].toNat : Int) ≤ 90) = false := by simp; omega
            have d4 : decide (48 ≤ (s[k].toNat : Int)) = true := by simp; omega
            have d5 : decide ((s[k].toNat : Int) ≤ 57) = false := by simp; omega
            have HG := hide (show tenByte s[k] = true by unfold tenByte; simp; omega)
            have hl : 97 ≤ (s[k].toNat : Int) ∧ (s[k].toNat : Int) ≤ 122 := h
            obtain ⟨hl1, hl2⟩ := hl
            clear h
            have HS := hide (show (s.data.toList.take (k + 1)).all tenByte = true by rw [all_step _ s k hlt HA.out]; exact HG.out)
            go_wp2
            go_round
            case rel => exact ⟨k + 1, by omega, by go_num, HS.out⟩
            case measure => simp [intOf]; omega
          · have q45 : ((s[k].toNat : Int) == 45) = false := by simp; omega
            have p45 : ((s[k].toNat : Int) != 45) = true := by simp; omega
            have q95 : ((s[k].toNat : Int) == 95) = false := by simp; omega
            have p95 : ((s[k].toNat : Int) != 95) = true := by simp; omega
            have d0 : decide (97 ≤ (s[k].toNat : Int)) = true := by simp; omega
            have d1 : decide ((s[k].toNat : Int) ≤ 122) = false := by simp; omega
            have d2 : decide (65 ≤ (s[k].toNat : Int)) = true := by simp; omega
            have d3 : decide ((s[k].toNat : Int) ≤ 90) = false := by simp; omega
            have d4 : decide (48 ≤ (s[k].toNat : Int)) = true := by simp; omega
            have d5 : decide ((s[k].toNat : Int) ≤ 57) = false := by simp; omega
            have HG := hide (show tenByte s[k] = false by unfold tenByte; simp; omega)
            have hl : 123 ≤ (s[k].toNat : Int) := h
            clear h
            have HS := hide (rten_no hlt HG.out)
            go_wp2
            go_ret
            exact ⟨ret_bool HS.out.symm, rfl⟩
        · have HE := hide (rten_all HA.out HF.out h4 (by omega))
          go_wp2
          go_ret
          exact ⟨ret_bool HE.out.symm, rfl⟩
    · have hx := hide (show tenOk s = false by unfold tenOk; rw [hf]; simp)
      go_enter Tryd.func22, Tryd.ntmps22
      go_wp2_with fail
      refine (prefix_dash _ _ hs).mono ?_
      rintro e w' ⟨rfl, rfl⟩
      go_wp2_with fail
      go_ret
      exact ⟨ret_bool hx.out.symm, rfl⟩

set_option maxHeartbeats 4000000 in
theorem rtenant_any (s : ByteArray) (w : World) (hs : s.size ≤ 9223372036854775807) :
    Calls Tryd.prog 28 #[.string s] w (BoolAt (tenOk s) w) := by
  go_enter Tryd.func28, Tryd.ntmps28
  go_wp2
  go_loop [3] (fun i => ∃ k : Nat, k ≤ s.size ∧ i = .int .i64 k ∧ Rten s k) (fun i => s.size - (intOf i).toNat)
  case atStart => exact ⟨0, Nat.zero_le _, rfl, rten_zero s⟩
  case round =>
    obtain ⟨k, hk, rfl, ha⟩ := hrel
    have HA := hide ha
    clear ha
    by_cases hlt : k < s.size
    · have hb : (s[k].toNat : Int) ≤ 255 := by have := s[k].toNat_lt; omega
      have key : ((s[k].toNat : Int) < 45) ∨ ((s[k].toNat : Int) = 45) ∨ (45 < (s[k].toNat : Int) ∧ (s[k].toNat : Int) ≤ 47) ∨ (48 ≤ (s[k].toNat : Int) ∧ (s[k].toNat : Int) ≤ 57) ∨ (58 ≤ (s[k].toNat : Int) ∧ (s[k].toNat : Int) ≤ 64) ∨ (65 ≤ (s[k].toNat : Int) ∧ (s[k].toNat : Int) ≤ 90) ∨ (91 ≤ (s[k].toNat : Int) ∧ (s[k].toNat : Int) ≤ 94) ∨ ((s[k].toNat : Int) = 95) ∨ ((s[k].toNat : Int) = 96) ∨ (97 ≤ (s[k].toNat : Int) ∧ (s[k].toNat : Int) ≤ 122) ∨ (123 ≤ (s[k].toNat : Int)) := by omega
      rcases key with h | h | h | h | h | h | h | h | h | h | h
      · have q45 : ((s[k].toNat : Int) == 45) = false := by simp; omega
        have p45 : ((s[k].toNat : Int) != 45) = true := by simp; omega
        have q95 : ((s[k].toNat : Int) == 95) = false := by simp; omega
        have p95 : ((s[k].toNat : Int) != 95) = true := by simp; omega
        have d0 : decide ((s[k].toNat : Int) < 97) = true := by simp; omega
        have d1 : decide (122 < (s[k].toNat : Int)) = false := by simp; omega
        have d2 : decide ((s[k].toNat : Int) < 65) = true := by simp; omega
        have d3 : decide (90 < (s[k].toNat : Int)) = false := by simp; omega
        have d4 : decide ((s[k].toNat : Int) < 48) = true := by simp; omega
        have d5 : decide (57 < (s[k].toNat : Int)) = false := by simp; omega
        have HG := hide (show tenByte s[k] = false by unfold tenByte; simp; omega)
        have hl : (s[k].toNat : Int) < 45 := h
        have HS := hide (rten_no hlt HG.out)
        clear h
        go_wp2
        go_ret
        exact ⟨ret_bool HS.out.symm, rfl⟩
      · have q45 : ((s[k].toNat : Int) == 45) = true := by simp; omega
        have p45 : ((s[k].toNat : Int) != 45) = false := by simp; omega
        have q95 : ((s[k].toNat : Int) == 95) = false := by simp; omega
        have p95 : ((s[k].toNat : Int) != 95) = true := by simp; omega
        have d0 : decide ((s[k].toNat : Int) < 97) = true := by simp; omega
        have d1 : decide (122 < (s[k].toNat : Int)) = false := by simp; omega
        have d2 : decide ((s[k].toNat : Int) < 65) = true := by simp; omega
        have d3 : decide (90 < (s[k].toNat : Int)) = false := by simp; omega
        have d4 : decide ((s[k].toNat : Int) < 48) = true := by simp; omega
        have d5 : decide (57 < (s[k].toNat : Int)) = false := by simp; omega
        have HG := hide (show tenByte s[k] = true by unfold tenByte; simp; omega)
        have hl1 : 45 ≤ (s[k].toNat : Int) := by omega
        have hl2 : (s[k].toNat : Int) ≤ 45 := by omega
        by_cases hz : k = 0
        · subst hz
          have HS := hide (rten_dash hlt h)
          clear h
          go_wp2
          go_ret
          exact ⟨ret_bool HS.out.symm, rfl⟩
        · have HS := hide (rten_step HA.out hlt HG.out (fun e => absurd e hz))
          have z1 : ((k : Int) == 0) = false := by simpa using hz
          clear h hz
          go_wp2
          go_round
          case rel => exact ⟨k + 1, by omega, by go_num, HS.out⟩
          case measure => simp [intOf]; omega
      · have q45 : ((s[k].toNat : Int) == 45) = false := by simp; omega
        have p45 : ((s[k].toNat : Int) != 45) = true := by simp; omega
        have q95 : ((s[k].toNat : Int) == 95) = false := by simp; omega
        have p95 : ((s[k].toNat : Int) != 95) = true := by simp; omega
        have d0 : decide ((s[k].toNat : Int) < 97) = true := by simp; omega
        have d1 : decide (122 < (s[k].toNat : Int)) = false := by simp; omega
        have d2 : decide ((s[k].toNat : Int) < 65) = true := by simp; omega
        have d3 : decide (90 < (s[k].toNat : Int)) = false := by simp; omega
        have d4 : decide ((s[k].toNat : Int) < 48) = true := by simp; omega
        have d5 : decide (57 < (s[k].toNat : Int)) = false := by simp; omega
        have HG := hide (show tenByte s[k] = false by unfold tenByte; simp; omega)
        have hl : 45 < (s[k].toNat : Int) ∧ (s[k].toNat : Int) ≤ 47 := h
        obtain ⟨hl1, hl2⟩ := hl
        have HS := hide (rten_no hlt HG.out)
        clear h
        go_wp2
        go_ret
        exact ⟨ret_bool HS.out.symm, rfl⟩
      · have q45 : ((s[k].toNat : Int) == 45) = false := by simp; omega
        have p45 : ((s[k].toNat : Int) != 45) = true := by simp; omega
        have q95 : ((s[k].toNat : Int) == 95) = false := by simp; omega
        have p95 : ((s[k].toNat : Int) != 95) = true := by simp; omega
        have d0 : decide ((s[k].toNat : Int) < 97) = true := by simp; omega
        have d1 : decide (122 < (s[k].toNat : Int)) = false := by simp; omega
        have d2 : decide ((s[k].toNat : Int) < 65) = true := by simp; omega
        have d3 : decide (90 < (s[k].toNat : Int)) = false := by simp; omega
        have d4 : decide ((s[k].toNat : Int) < 48) = false := by simp; omega
        have d5 : decide (57 < (s[k].toNat : Int)) = false := by simp; omega
        have HG := hide (show tenByte s[k] = true by unfold tenByte; simp; omega)
        have hl : 48 ≤ (s[k].toNat : Int) ∧ (s[k].toNat : Int) ≤ 57 := h
        obtain ⟨hl1, hl2⟩ := hl
        have HS := hide (rten_step HA.out hlt HG.out (fun _ => by omega))
        clear h
        go_wp2
        go_round
        case rel => exact ⟨k + 1, by omega, by go_num, HS.out⟩
        case measure => simp [intOf]; omega
      · have q45 : ((s[k].toNat : Int) == 45) = false := by simp; omega
        have p45 : ((s[k].toNat : Int) != 45) = true := by simp; omega
        have q95 : ((s[k].toNat : Int) == 95) = false := by simp; omega
        have p95 : ((s[k].toNat : Int) != 95) = true := by simp; omega
        have d0 : decide ((s[k].toNat : Int) < 97) = true := by simp; omega
        have d1 : decide (122 < (s[k].toNat : Int)) = false := by simp; omega
        have d2 : decide ((s[k].toNat : Int) < 65) = true := by simp; omega
        have d3 : decide (90 < (s[k].toNat : Int)) = false := by simp; omega
        have d4 : decide ((s[k].toNat : Int) < 48) = false := by simp; omega
        have d5 : decide (57 < (s[k].toNat : Int)) = true := by simp; omega
        have HG := hide (show tenByte s[k] = false by unfold tenByte; simp; omega)
        have hl : 58 ≤ (s[k].toNat : Int) ∧ (s[k].toNat : Int) ≤ 64 := h
        obtain ⟨hl1, hl2⟩ := hl
        have HS := hide (rten_no hlt HG.out)
        clear h
        go_wp2
        go_ret
        exact ⟨ret_bool HS.out.symm, rfl⟩
      · have q45 : ((s[k].toNat : Int) == 45) = false := by simp; omega
        have p45 : ((s[k].toNat : Int) != 45) = true := by simp; omega
        have q95 : ((s[k].toNat : Int) == 95) = false := by simp; omega
        have p95 : ((s[k].toNat : Int) != 95) = true := by simp; omega
        have d0 : decide ((s[k].toNat : Int) < 97) = true := by simp; omega
        have d1 : decide (122 < (s[k].toNat : Int)) = false := by simp; omega
        have d2 : decide ((s[k].toNat : Int) < 65) = false := by simp; omega
        have d3 : decide (90 < (s[k].toNat : Int)) = false := by simp; omega
        have d4 : decide ((s[k].toNat : Int) < 48) = false := by simp; omega
        have d5 : decide (57 < (s[k].toNat : Int)) = true := by simp; omega
        have HG := hide (show tenByte s[k] = true by unfold tenByte; simp; omega)
        have hl : 65 ≤ (s[k].toNat : Int) ∧ (s[k].toNat : Int) ≤ 90 := h
        obtain ⟨hl1, hl2⟩ := hl
        have HS := hide (rten_step HA.out hlt HG.out (fun _ => by omega))
        clear h
        go_wp2
        go_round
        case rel => exact ⟨k + 1, by omega, by go_num, HS.out⟩
        case measure => simp [intOf]; omega
      · have q45 : ((s[k].toNat : Int) == 45) = false := by simp; omega
        have p45 : ((s[k].toNat : Int) != 45) = true := by simp; omega
        have q95 : ((s[k].toNat : Int) == 95) = false := by simp; omega
        have p95 : ((s[k].toNat : Int) != 95) = true := by simp; omega
        have d0 : decide ((s[k].toNat : Int) < 97) = true := by simp; omega
        have d1 : decide (122 < (s[k].toNat : Int)) = false := by simp; omega
        have d2 : decide ((s[k].toNat : Int) < 65) = false := by simp; omega
        have d3 : decide (90 < (s[k].toNat : Int)) = true := by simp; omega
        have d4 : decide ((s[k].toNat : Int) < 48) = false := by simp; omega
        have d5 : decide (57 < (s[k].toNat : Int)) = true := by simp; omega
        have HG := hide (show tenByte s[k] = false by unfold tenByte; simp; omega)
        have hl : 91 ≤ (s[k].toNat : Int) ∧ (s[k].toNat : Int) ≤ 94 := h
        obtain ⟨hl1, hl2⟩ := hl
        have HS := hide (rten_no hlt HG.out)
        clear h
        go_wp2
        go_ret
        exact ⟨ret_bool HS.out.symm, rfl⟩
      · have q45 : ((s[k].toNat : Int) == 45) = false := by simp; omega
        have p45 : ((s[k].toNat : Int) != 45) = true := by simp; omega
        have q95 : ((s[k].toNat : Int) == 95) = true := by simp; omega
        have p95 : ((s[k].toNat : Int) != 95) = false := by simp; omega
        have d0 : decide ((s[k].toNat : Int) < 97) = true := by simp; omega
        have d1 : decide (122 < (s[k].toNat : Int)) = false := by simp; omega
        have d2 : decide ((s[k].toNat : Int) < 65) = false := by simp; omega
        have d3 : decide (90 < (s[k].toNat : Int)) = true := by simp; omega
        have d4 : decide ((s[k].toNat : Int) < 48) = false := by simp; omega
        have d5 : decide (57 < (s[k].toNat : Int)) = true := by simp; omega
        have HG := hide (show tenByte s[k] = true by unfold tenByte; simp; omega)
        have hl1 : 95 ≤ (s[k].toNat : Int) := by omega
        have hl2 : (s[k].toNat : Int) ≤ 95 := by omega
        have HS := hide (rten_step HA.out hlt HG.out (fun _ => by omega))
        clear h
        go_wp2
        go_round
        case rel => exact ⟨k + 1, by omega, by go_num, HS.out⟩
        case measure => simp [intOf]; omega
      · have q45 : ((s[k].toNat : Int) == 45) = false := by simp; omega
        have p45 : ((s[k].toNat : Int) != 45) = true := by simp; omega
        have q95 : ((s[k].toNat : Int) == 95) = false := by simp; omega
        have p95 : ((s[k].toNat : Int) != 95) = true := by simp; omega
        have d0 : decide ((s[k].toNat : Int) < 97) = true := by simp; omega
        have d1 : decide (122 < (s[k].toNat : Int)) = false := by simp; omega
        have d2 : decide ((s[k].toNat : Int) < 65) = false := by simp; omega
        have d3 : decide (90 < (s[k].toNat : Int)) = true := by simp; omega
        have d4 : decide ((s[k].toNat : Int) < 48) = false := by simp; omega
        have d5 : decide (57 < (s[k].toNat : Int)) = true := by simp; omega
        have HG := hide (show tenByte s[k] = false by unfold tenByte; simp; omega)
        have hl1 : 96 ≤ (s[k].toNat : Int) := by omega
        have hl2 : (s[k].toNat : Int) ≤ 96 := by omega
        have HS := hide (rten_no hlt HG.out)
        clear h
        go_wp2
        go_ret
        exact ⟨ret_bool HS.out.symm, rfl⟩
      · have q45 : ((s[k].toNat : Int) == 45) = false := by simp; omega
        have p45 : ((s[k].toNat : Int) != 45) = true := by simp; omega
        have q95 : ((s[k].toNat : Int) == 95) = false := by simp; omega
        have p95 : ((s[k].toNat : Int) != 95) = true := by simp; omega
        have d0 : decide ((s[k].toNat : Int) < 97) = false := by simp; omega
        have d1 : decide (122 < (s[k].toNat : Int)) = false := by simp; omega
        have d2 : decide ((s[k].toNat : Int) < 65) = false := by simp; omega
        have d3 : decide (90 < (s[k].toNat : Int)) = true := by simp; omega
        have d4 : decide ((s[k].toNat : Int) < 48) = false := by simp; omega
        have d5 : decide (57 < (s[k].toNat : Int)) = true := by simp; omega
        have HG := hide (show tenByte s[k] = true by unfold tenByte; simp; omega)
        have hl : 97 ≤ (s[k].toNat : Int) ∧ (s[k].toNat : Int) ≤ 122 := h
        obtain ⟨hl1, hl2⟩ := hl
        have HS := hide (rten_step HA.out hlt HG.out (fun _ => by omega))
        clear h
        go_wp2
        go_round
        case rel => exact ⟨k + 1, by omega, by go_num, HS.out⟩
        case measure => simp [intOf]; omega
      · have q45 : ((s[k].toNat : Int) == 45) = false := by simp; omega
        have p45 : ((s[k].toNat : Int) != 45) = true := by simp; omega
        have q95 : ((s[k].toNat : Int) == 95) = false := by simp; omega
        have p95 : ((s[k].toNat : Int) != 95) = true := by simp; omega
        have d0 : decide ((s[k].toNat : Int) < 97) = false := by simp; omega
        have d1 : decide (122 < (s[k].toNat : Int)) = true := by simp; omega
        have d2 : decide ((s[k].toNat : Int) < 65) = false := by simp; omega
        have d3 : decide (90 < (s[k].toNat : Int)) = true := by simp; omega
        have d4 : decide ((s[k].toNat : Int) < 48) = false := by simp; omega
        have d5 : decide (57 < (s[k].toNat : Int)) = true := by simp; omega
        have HG := hide (show tenByte s[k] = false by unfold tenByte; simp; omega)
        have hl : 123 ≤ (s[k].toNat : Int) := h
        have HS := hide (rten_no hlt HG.out)
        clear h
        go_wp2
        go_ret
        exact ⟨ret_bool HS.out.symm, rfl⟩
    · have HE := hide (rten_whole HA.out (by omega))
      go_wp2
      go_ret
      exact ⟨ret_bool (by rw [HE.out, Bool.eq_iff_iff]; simp <;> omega), rfl⟩

end Go.Proofs.YtmelcndflllgmaaDoor
