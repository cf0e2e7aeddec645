/-
  Tags that are one, strictly: both functions.
-/
import Derived.Test.YtmelcndflllgmaaDoorTagB
namespace Go.Proofs.YtmelcndflllgmaaDoor
open Go.RowKit

set_option maxHeartbeats 1000000 in
theorem tag_strong (s t : ByteArray) (a b : Bool) (w : World) (hs : s.size ≤ 9223372036854775807) (ht : t.size ≤ 9223372036854775807) :
    Calls Tryd.prog 41 #[.agg #[.string s, .bool a], .agg #[.string t, .bool b]] w (BoolOk (strongB (s, a) (t, b)) w) := by
  cases a
  · cases b
    · go_enter Tryd.func41, Tryd.ntmps41
      go_wp2_with fail
      refine (tag_weak _ _ _ _ _ hs ht).mono ?_
      rintro e w1 ⟨rfl, hb1⟩
      go_wp2
      go_ret
      exact ⟨ret_bool (by simp [strongB]), chain1 hb1⟩
    · go_enter Tryd.func41, Tryd.ntmps41
      go_wp2
      go_ret
      exact ⟨ret_bool (by simp [strongB]), ((Below.refl _ _).alloc (Nat.le_refl _) _).alloc (by simp) _⟩
  · go_enter Tryd.func41, Tryd.ntmps41
    go_wp2
    go_ret
    exact ⟨ret_bool (by simp [strongB]), ((Below.refl _ _).alloc (Nat.le_refl _) _).alloc (by simp) _⟩

set_option maxHeartbeats 1000000 in
theorem rtag_strong (s t : ByteArray) (a b : Bool) (w : World) (hs : s.size ≤ 9223372036854775807) (ht : t.size ≤ 9223372036854775807) :
    Calls Tryd.prog 42 #[.agg #[.string s, .bool a], .agg #[.string t, .bool b]] w (BoolOk (strongB (s, a) (t, b)) w) := by
  by_cases hw : weakB (s, a) (t, b) = true
  · have hx := hide (show strongB (s, a) (t, b) = (!a && !b) by simp [strongB, hw])
    cases a <;> cases b
    all_goals
      go_enter Tryd.func42, Tryd.ntmps42
      go_wp2_with fail
      refine (rtag_weak _ _ _ _ _ hs ht).mono ?_
      rintro e w1 ⟨rfl, hb1⟩
      obtain ⟨c0, c1, c2, c3⟩ := two_cells hb1
      go_wp2
      go_ret
      exact ⟨ret_bool (by rw [hx.out]; rfl), chain1 hb1⟩
  · have hw' : weakB (s, a) (t, b) = false := by simpa using hw
    have hx := hide (show strongB (s, a) (t, b) = false by simp [strongB, hw'])
    clear hw
    go_enter Tryd.func42, Tryd.ntmps42
    go_wp2_with fail
    refine (rtag_weak _ _ _ _ _ hs ht).mono ?_
    rintro e w1 ⟨rfl, hb1⟩
    go_wp2
    go_ret
    exact ⟨ret_bool hx.out.symm, chain1 hb1⟩

end Go.Proofs.YtmelcndflllgmaaDoor
