/-
  Tags: which may be; when two are one, strictly and loosely: the reference's functions.
-/
import Derived.Test.YtmelcndflllgmaaDoorTagA
namespace Go.Proofs.YtmelcndflllgmaaDoor
open Go.RowKit

set_option maxHeartbeats 1000000 in
theorem rtag_right (s : ByteArray) (wk : Bool) (w : World) (hs : s.size ≤ 9223372036854775807) :
    Calls Tryd.prog 26 #[.agg #[.string s, .bool wk]] w (BoolOk (tagOk s) w) := by
  by_cases h1 : s.size < 1
  · have hx := hide (show tagOk s = false by unfold tagOk; simp; omega)
    go_enter Tryd.func26, Tryd.ntmps26
    go_wp2
    go_ret
    exact ⟨ret_bool hx.out.symm, (Below.refl _ _).alloc (Nat.le_refl _) _⟩
  · by_cases h2 : 100 < s.size
    · have hx := hide (show tagOk s = false by unfold tagOk; simp; omega)
      go_enter Tryd.func26, Tryd.ntmps26
      go_wp2
      go_ret
      exact ⟨ret_bool hx.out.symm, (Below.refl _ _).alloc (Nat.le_refl _) _⟩
    · have h3 : 1 ≤ s.size := by omega
      have h4 : s.size ≤ 100 := by omega
      clear h1 h2 hs
      have hx := hide (show tagOk s = s.data.toList.all tagByte by unfold tagOk; simp [h3, h4])
      go_enter Tryd.func26, Tryd.ntmps26
      go_wp2
      go_loop [3] (fun i => ∃ k : Nat, k ≤ s.size ∧ i = .int .i64 k ∧ (s.data.toList.take k).all tagByte = true) (fun i => s.size - (intOf i).toNat)
      case atStart => exact ⟨0, Nat.zero_le _, rfl, rfl⟩
      case round =>
        obtain ⟨k, hk, rfl, ha⟩ := hrel
        have HA := hide ha
        clear ha
        by_cases hlt : k < s.size
        · have hb : (s[k].toNat : Int) ≤ 255 := by have := s[k].toNat_lt; omega
          by_cases hg : 33 ≤ (s[k].toNat : Int) ∧ (s[k].toNat : Int) ≠ 34 ∧ (s[k].toNat : Int) ≤ 126
          · have HS := hide (show (s.data.toList.take (k + 1)).all tagByte = true by rw [all_step _ s k hlt HA.out]; unfold tagByte; simpa using hg)
            obtain ⟨g1, g2, g3⟩ := hg
            have g4 : ((s[k].toNat : Int) == 34) = false := by simpa using g2
            clear g2
            go_wp2
            go_round
            case rel => exact ⟨k + 1, by omega, by go_num, HS.out⟩
            case measure => simp [intOf]; omega
          · have HS := hide (show s.data.toList.all tagByte = false from all_no _ s k hlt (by unfold tagByte; simpa using hg))
            by_cases g1 : (s[k].toNat : Int) < 33
            · clear hg
              go_wp2
              go_ret
              exact ⟨ret_bool (by rw [hx.out, HS.out]), (Below.refl _ _).alloc (Nat.le_refl _) _⟩
            · by_cases g2 : (s[k].toNat : Int) = 34
              · have g4 : ((s[k].toNat : Int) == 34) = true := by simpa using g2
                clear hg g2
                go_wp2
                go_ret
                exact ⟨ret_bool (by rw [hx.out, HS.out]), (Below.refl _ _).alloc (Nat.le_refl _) _⟩
              · have g4 : ((s[k].toNat : Int) == 34) = false := by simpa using g2
                have g5 : 126 < (s[k].toNat : Int) := by omega
                clear hg g2
                go_wp2
                go_ret
                exact ⟨ret_bool (by rw [hx.out, HS.out]), (Below.refl _ _).alloc (Nat.le_refl _) _⟩
        · have HE := hide (all_whole tagByte s k (by omega))
          go_wp2
          go_ret
          exact ⟨ret_bool (by rw [hx.out, ← HE.out, HA.out]), (Below.refl _ _).alloc (Nat.le_refl _) _⟩

set_option maxHeartbeats 1000000 in
theorem rtag_weak (s t : ByteArray) (a b : Bool) (w : World) (hs : s.size ≤ 9223372036854775807) (ht : t.size ≤ 9223372036854775807) :
    Calls Tryd.prog 64 #[.agg #[.string s, .bool a], .agg #[.string t, .bool b]] w (BoolOk (weakB (s, a) (t, b)) w) := by
  by_cases h1 : tagOk s = true
  · by_cases h2 : tagOk t = true
    · have hx := hide (show weakB (s, a) (t, b) = (s.toList == t.toList) by unfold weakB; simp [h1, h2])
      go_enter Tryd.func64, Tryd.ntmps64
      go_wp2_with fail
      refine (rtag_right _ _ _ hs).mono ?_
      rintro e w1 ⟨rfl, hb1⟩
      obtain ⟨c0, c1, c2, c3⟩ := two_cells hb1
      go_wp2_with fail
      refine (rtag_right _ _ _ ht).mono ?_
      rintro e w2 ⟨rfl, hb2⟩
      have d0 := cell_later'' hb2 c0
      have d1 := cell_later'' hb2 c2
      go_wp2
      go_ret
      exact ⟨ret_bool hx.out.symm, chain2 hb1 hb2⟩
    · have h2' : tagOk t = false := by simpa using h2
      have hx := hide (show weakB (s, a) (t, b) = false by unfold weakB; simp [h2'])
      clear h2
      go_enter Tryd.func64, Tryd.ntmps64
      go_wp2_with fail
      refine (rtag_right _ _ _ hs).mono ?_
      rintro e w1 ⟨rfl, hb1⟩
      obtain ⟨c0, c1, c2, c3⟩ := two_cells hb1
      go_wp2_with fail
      refine (rtag_right _ _ _ ht).mono ?_
      rintro e w2 ⟨rfl, hb2⟩
      go_wp2
      go_ret
      exact ⟨ret_bool hx.out.symm, chain2 hb1 hb2⟩
  · have h1' : tagOk s = false := by simpa using h1
    have hx := hide (show weakB (s, a) (t, b) = false by unfold weakB; simp [h1'])
    clear h1
    go_enter Tryd.func64, Tryd.ntmps64
    go_wp2_with fail
    refine (rtag_right _ _ _ hs).mono ?_
    rintro e w1 ⟨rfl, hb1⟩
    go_wp2
    go_ret
    exact ⟨ret_bool hx.out.symm, chain1 hb1⟩
end Go.Proofs.YtmelcndflllgmaaDoor
