/-
  A status without a body; the word 'chunked'.
-/
import Derived.Test.YtiigkacmahecaaaDoorGrFr
import Derived.Test.YtiigkacmahecaaaDoorGrF
namespace Go.Proofs.YtiigkacmahecaaaDoor
open Go.RowKit
set_option linter.unusedVariables false
set_option linter.unusedSimpArgs false

def bareB (z : Int) : Bool := decide (100 ≤ z ∧ z ≤ 199 ∨ z = 204 ∨ z = 304)
def W7 : ByteArray := ⟨#[99, 104, 117, 110, 107, 101, 100]⟩
theorem low_small {b c : UInt8} (hc : 97 ≤ c.toNat ∧ c.toNat ≤ 122) (h : b = c) : lowB b = c := by
  subst h
  unfold lowB
  rw [if_neg (by omega)]
theorem low_great {b c : UInt8} (hc : 97 ≤ c.toNat ∧ c.toNat ≤ 122) (h : b.toNat + 32 = c.toNat) : lowB b = c := by
  unfold lowB
  rw [if_pos (by omega)]
  apply UInt8.toNat_inj.1
  rw [UInt8.toNat_add]
  show (b.toNat + 32) % 256 = _
  omega
theorem low_no {b c : UInt8} (hc : 97 ≤ c.toNat ∧ c.toNat ≤ 122) (h1 : b ≠ c) (h2 : b.toNat + 32 ≠ c.toNat) : lowB b ≠ c := by
  intro h
  unfold lowB at h
  split at h
  · have := congrArg UInt8.toNat h
    rw [UInt8.toNat_add] at this
    have h3 : b.toNat < 256 := b.toNat_lt
    have h4 : (32 : UInt8).toNat = 32 := rfl
    omega
  · exact h1 h

set_option maxRecDepth 100000 in
set_option maxHeartbeats 2000000 in
theorem bare_any (z : Int) (w : World) : Calls Tryd.prog 27 #[.int .i64 z] w (BoolOk (bareB z) w) := by
  by_cases h1 : 100 ≤ z
  · have d1 : decide (z ≥ 100) = true := decide_eq_true h1
    by_cases h2 : z ≤ 199
    · have d2 : decide (z ≤ 199) = true := decide_eq_true h2
      have HX := hide (show bareB z = true from decide_eq_true (.inl ⟨h1, h2⟩))
      clear h1 h2
      go_enter Tryd.func27, Tryd.ntmps27
      go_wp2
      go_ret
      exact ⟨by rw [HX.out]; rfl, Below.refl _ _⟩
    · have d2 : decide (z ≤ 199) = false := decide_eq_false h2
      by_cases h3 : z = 204
      · have e3 : (z == 204) = true := beqT h3
        have HX := hide (show bareB z = true from decide_eq_true (.inr (.inl h3)))
        clear h1 h2 h3
        go_enter Tryd.func27, Tryd.ntmps27
        go_wp2
        go_ret
        exact ⟨by rw [HX.out]; rfl, Below.refl _ _⟩
      · have e3 : (z == 204) = false := beqF h3
        by_cases h4 : z = 304
        · have e4 : (z == 304) = true := beqT h4
          have HX := hide (show bareB z = true from decide_eq_true (.inr (.inr h4)))
          clear h1 h2 h3 h4
          go_enter Tryd.func27, Tryd.ntmps27
          go_wp2
          go_ret
          exact ⟨by rw [HX.out]; rfl, Below.refl _ _⟩
        · have e4 : (z == 304) = false := beqF h4
          have HX := hide (show bareB z = false from decide_eq_false (fun h => by omega))
          clear h1 h2 h3 h4
          go_enter Tryd.func27, Tryd.ntmps27
          go_wp2
          go_ret
          exact ⟨by rw [HX.out]; rfl, Below.refl _ _⟩
  · have d1 : decide (z ≥ 100) = false := decide_eq_false h1
    have h2 : 0 = 0 := rfl
    by_cases h3 : z = 204
    · have e3 : (z == 204) = true := beqT h3
      have HX := hide (show bareB z = true from decide_eq_true (.inr (.inl h3)))
      clear h1 h2 h3
      go_enter Tryd.func27, Tryd.ntmps27
      go_wp2
      go_ret
      exact ⟨by rw [HX.out]; rfl, Below.refl _ _⟩
    · have e3 : (z == 204) = false := beqF h3
      by_cases h4 : z = 304
      · have e4 : (z == 304) = true := beqT h4
        have HX := hide (show bareB z = true from decide_eq_true (.inr (.inr h4)))
        clear h1 h2 h3 h4
        go_enter Tryd.func27, Tryd.ntmps27
        go_wp2
        go_ret
        exact ⟨by rw [HX.out]; rfl, Below.refl _ _⟩
      · have e4 : (z == 304) = false := beqF h4
        have HX := hide (show bareB z = false from decide_eq_false (fun h => by omega))
        clear h1 h2 h3 h4
        go_enter Tryd.func27, Tryd.ntmps27
        go_wp2
        go_ret
        exact ⟨by rw [HX.out]; rfl, Below.refl _ _⟩

theorem w7_at (k : Nat) (h : k < 7) : ∃ c : UInt8, (⟨#[99, 104, 117, 110, 107, 101, 100]⟩ : ByteArray)[k]'h = c ∧ 97 ≤ c.toNat ∧ c.toNat ≤ 122 ∧ wChunked[k]'h = c := by
  have hk : k = 0 ∨ k = 1 ∨ k = 2 ∨ k = 3 ∨ k = 4 ∨ k = 5 ∨ k = 6 := by omega
  rcases hk with rfl | rfl | rfl | rfl | rfl | rfl | rfl
  · exact ⟨99, rfl, by decide, by decide, rfl⟩
  · exact ⟨104, rfl, by decide, by decide, rfl⟩
  · exact ⟨117, rfl, by decide, by decide, rfl⟩
  · exact ⟨110, rfl, by decide, by decide, rfl⟩
  · exact ⟨107, rfl, by decide, by decide, rfl⟩
  · exact ⟨101, rfl, by decide, by decide, rfl⟩
  · exact ⟨100, rfl, by decide, by decide, rfl⟩

set_option maxRecDepth 100000 in
set_option maxHeartbeats 4000000 in
theorem chunked_any (s : ByteArray) (w : World) : Calls Tryd.prog 30 #[.string s] w (BoolOk (alikeB s.data.toList wChunked) w) := by
  by_cases h7 : s.size = 7
  · have e7 : ((s.size : Int) != 7) = false := bneF (by omega)
    have h7i : (s.size : Int) = 7 := by omega
    go_enter Tryd.func30, Tryd.ntmps30
    go_wp2
    clear e7
    go_loopw [3, 9] (fun _ i wr => ∃ k : Nat, k ≤ 7 ∧ i = .int .i64 (k : Int) ∧ Hid ((s.data.toList.take k).map lowB = (wChunked.take k).map lowB) ∧ Below w.heap.size w wr) (fun _ i _ => 7 - (intOf i).toNat)
    case atStart => exact ⟨0, by omega, rfl, rfl, Below.refl _ _⟩
    case round =>
      obtain ⟨k, hk, rfl, HI, hb⟩ := hrel
      by_cases hlt : k < 7
      · have hlk : k < s.size := by omega
        have hlw : k < (⟨#[99, 104, 117, 110, 107, 101, 100]⟩ : ByteArray).size := hlt
        obtain ⟨c, hW, hc1, hc2, hcw⟩ := w7_at k hlt
        have hS : s.data.toList[k]'(by rw [lsize]; omega) = s[k] := rfl
        have hb1 : 97 ≤ ((⟨#[99, 104, 117, 110, 107, 101, 100]⟩ : ByteArray)[k].toNat : Int) := by rw [hW]; omega
        have hb2 : ((⟨#[99, 104, 117, 110, 107, 101, 100]⟩ : ByteArray)[k].toNat : Int) ≤ 122 := by rw [hW]; omega
        have hlc : lowB c = c := low_small ⟨hc1, hc2⟩ rfl
        by_cases n1 : s[k] = c
        · have e1 : ((s[k].toNat : Int) != ((⟨#[99, 104, 117, 110, 107, 101, 100]⟩ : ByteArray)[k].toNat : Int)) = false := bneF (by rw [hW, n1])
          have HS := hide (alike_step HI.out (by rw [lsize]; omega) hlt (by rw [hS, n1, hcw]))
          clear n1 hW hcw hS hlc
          go_wp2
          go_quiet (fail)
          go_wp2
          go_roundw
          case rel => exact ⟨k + 1, by omega, by go_num, HS, below_drewN hb _⟩
          case measure => simp [intOf] <;> omega
        · have e1 : ((s[k].toNat : Int) != ((⟨#[99, 104, 117, 110, 107, 101, 100]⟩ : ByteArray)[k].toNat : Int)) = true := bneT (by rw [hW]; exact fun h => n1 (UInt8.toNat_inj.1 (by omega)))
          by_cases n2 : s[k].toNat + 32 = c.toNat
          · have e2 : ((s[k].toNat : Int) != ((⟨#[99, 104, 117, 110, 107, 101, 100]⟩ : ByteArray)[k].toNat : Int) - 97 + 65) = false := bneF (by rw [hW]; omega)
            have HS := hide (alike_step HI.out (by rw [lsize]; omega) hlt (by rw [hS, hcw, hlc]; exact low_great ⟨hc1, hc2⟩ n2))
            clear n1 n2 hW hcw hS hlc
            go_wp2
            go_quiet (fail)
            go_wp2
            go_roundw
            case rel => exact ⟨k + 1, by omega, by go_num, HS, below_drewN hb _⟩
            case measure => simp [intOf] <;> omega
          · have e2 : ((s[k].toNat : Int) != ((⟨#[99, 104, 117, 110, 107, 101, 100]⟩ : ByteArray)[k].toNat : Int) - 97 + 65) = true := bneT (by rw [hW]; omega)
            have HS := hide (alike_ne (a := s.data.toList) (b := wChunked) (by rw [lsize]; omega) hlt (by rw [hS, hcw, hlc]; exact low_no ⟨hc1, hc2⟩ n1 n2))
            clear n1 n2 hW hcw hS hlc
            go_wp2
            go_quiet (fail)
            go_wp2
            go_ret
            exact ⟨by rw [HS.out]; rfl, below_drewN hb _⟩
      · obtain rfl : k = 7 := by omega
        have HS := hide (alike_end (a := s.data.toList) (b := wChunked) HI.out (by rw [lsize]; omega) (by decide))
        go_wp2
        go_ret
        exact ⟨by rw [HS.out]; rfl, hb⟩
  · have e7 : ((s.size : Int) != 7) = true := bneT (by omega)
    have HS := hide (alike_len (a := s.data.toList) (b := wChunked) (by rw [lsize]; exact h7))
    go_enter Tryd.func30, Tryd.ntmps30
    go_wp2
    go_ret
    exact ⟨by rw [HS.out]; rfl, Below.refl _ _⟩

end Go.Proofs.YtiigkacmahecaaaDoor
