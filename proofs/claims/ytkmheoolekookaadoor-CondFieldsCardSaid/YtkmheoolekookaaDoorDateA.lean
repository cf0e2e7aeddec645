/-
  What the calendar's functions of plain numbers compute: the program's and the reference's.
-/
import Derived.Test.YtkmheoolekookaaDoorRows
import Derived.Test.YtkmheoolekookaaDoorDateM
import Derived.Test.YtkmheoolekookaaDoorGrU
namespace Go.Proofs.YtkmheoolekookaaDoor
open Go.RowKit DateM


set_option maxHeartbeats 400000 in
theorem leap_any (y : Int) (w : World) :
    Calls Tryd.prog 95 #[.int .i64 y] w fun e w' => e = .returned (.bool (leapB y)) ∧ w = w' := by
  go_enter Tryd.func95, Tryd.ntmps95
  go_wp2
  all_goals go_ret
  all_goals exact ⟨ret_bool (by simp [leapB, *]), rfl⟩

set_option maxHeartbeats 400000 in
theorem rleap_any (y : Int) (w : World) :
    Calls Tryd.prog 96 #[.int .i64 y] w fun e w' => e = .returned (.bool (leapB y)) ∧ w = w' := by
  go_enter Tryd.func96, Tryd.ntmps96
  go_wp2
  all_goals go_ret
  all_goals exact ⟨ret_bool (by simp [leapB, *]), rfl⟩

set_option maxHeartbeats 400000 in
theorem leaps_any (y : Int) (w : World) (h0 : 0 ≤ y) (h1 : y ≤ 10000) :
    Calls Tryd.prog 94 #[.int .i64 y] w fun e w' => e = .returned (.int .i64 (y / 4 - y / 100 + y / 400)) ∧ w = w' := by
  go_enter Tryd.func94, Tryd.ntmps94
  go_wp2
  go_ret
  exact ⟨rfl, rfl⟩

set_option maxHeartbeats 400000 in
theorem ahead_any (y : Int) (w : World) (h0 : 1970 ≤ y) (h1 : y ≤ 10000) :
    Calls Tryd.prog 82 #[.int .i64 y] w fun e w' => e = .returned (.int .i64 (aheadD y)) ∧ w = w' := by
  go_enter Tryd.func82, Tryd.ntmps82
  go_wp2_with (go_at_call 94; refine (leaps_any _ _ (by omega) (by omega)).mono ?_; rintro e w' ⟨rfl, rfl⟩)
  go_ret
  exact ⟨ret_int (by unfold aheadD; omega), rfl⟩

set_option maxHeartbeats 400000 in
theorem before_any (y : Int) (w : World) (h0 : 1970 ≤ y) (h1 : y ≤ 10000) :
    Calls Tryd.prog 85 #[.int .i64 y] w fun e w' => e = .returned (.int .i64 (aheadD y)) ∧ w = w' := by
  go_enter Tryd.func85, Tryd.ntmps85
  go_wp2
  go_ret
  exact ⟨ret_int (by unfold aheadD; omega), rfl⟩

set_option maxHeartbeats 400000 in
theorem long_any (y m : Int) (w : World) :
    Calls Tryd.prog 83 #[.int .i64 y, .int .i64 m] w fun e w' => e = .returned (.int .i64 (dim y m)) ∧ w = w' := by
  go_enter Tryd.func83, Tryd.ntmps83
  go_wp2_with (go_at_call 95; refine (leap_any _ _).mono ?_; rintro e w' ⟨rfl, rfl⟩)
  all_goals go_ret
  all_goals exact ⟨ret_int (by simp_all [dim]), rfl⟩

set_option maxHeartbeats 400000 in
theorem days_any (y m : Int) (w : World) :
    Calls Tryd.prog 86 #[.int .i64 y, .int .i64 m] w fun e w' => e = .returned (.int .i64 (dim y m)) ∧ w = w' := by
  go_enter Tryd.func86, Tryd.ntmps86
  go_wp2_with (go_at_call 96; refine (rleap_any _ _).mono ?_; rintro e w' ⟨rfl, rfl⟩)
  all_goals go_ret
  all_goals exact ⟨ret_int (by simp_all [dim]), rfl⟩
end Go.Proofs.YtkmheoolekookaaDoor
