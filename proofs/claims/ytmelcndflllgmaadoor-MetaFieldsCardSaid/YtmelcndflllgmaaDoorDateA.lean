/-
  What the calendar's functions of plain numbers compute: the program's and the reference's.
-/
import Derived.Test.YtmelcndflllgmaaDoorRows
import Derived.Test.YtmelcndflllgmaaDoorDateM
import Derived.Test.YtmelcndflllgmaaDoorUtil
namespace Go.Proofs.YtmelcndflllgmaaDoor
open Go.RowKit DateM


set_option maxHeartbeats 400000 in
theorem leap_any (y : Int) (w : World) :
    Calls Tryd.prog 79 #[.int .i64 y] w fun e w' => e = .returned (.bool (leapB y)) ∧ w = w' := by
  go_enter Tryd.func79, Tryd.ntmps79
  go_wp2
  all_goals go_ret
  all_goals exact ⟨ret_bool (by simp [leapB, *]), rfl⟩

set_option maxHeartbeats 400000 in
theorem rleap_any (y : Int) (w : World) :
    Calls Tryd.prog 87 #[.int .i64 y] w fun e w' => e = .returned (.bool (leapB y)) ∧ w = w' := by
  go_enter Tryd.func87, Tryd.ntmps87
  go_wp2
  all_goals go_ret
  all_goals exact ⟨ret_bool (by simp [leapB, *]), rfl⟩

set_option maxHeartbeats 400000 in
theorem leaps_any (y : Int) (w : World) (h0 : 0 ≤ y) (h1 : y ≤ 10000) :
    Calls Tryd.prog 78 #[.int .i64 y] w fun e w' => e = .returned (.int .i64 (y / 4 - y / 100 + y / 400)) ∧ w = w' := by
  go_enter Tryd.func78, Tryd.ntmps78
  go_wp2
  go_ret
  exact ⟨rfl, rfl⟩

set_option maxHeartbeats 400000 in
theorem ahead_any (y : Int) (w : World) (h0 : 1970 ≤ y) (h1 : y ≤ 10000) :
    Calls Tryd.prog 66 #[.int .i64 y] w fun e w' => e = .returned (.int .i64 (aheadD y)) ∧ w = w' := by
  go_enter Tryd.func66, Tryd.ntmps66
  go_wp2_with (go_at_call 78; refine (leaps_any _ _ (by omega) (by omega)).mono ?_; rintro e w' ⟨rfl, rfl⟩)
  go_ret
  exact ⟨ret_int (by unfold aheadD; omega), rfl⟩

set_option maxHeartbeats 400000 in
theorem before_any (y : Int) (w : World) (h0 : 1970 ≤ y) (h1 : y ≤ 10000) :
    Calls Tryd.prog 75 #[.int .i64 y] w fun e w' => e = .returned (.int .i64 (aheadD y)) ∧ w = w' := by
  go_enter Tryd.func75, Tryd.ntmps75
  go_wp2
  go_ret
  exact ⟨ret_int (by unfold aheadD; omega), rfl⟩

set_option maxHeartbeats 400000 in
theorem long_any (y m : Int) (w : World) :
    Calls Tryd.prog 67 #[.int .i64 y, .int .i64 m] w fun e w' => e = .returned (.int .i64 (dim y m)) ∧ w = w' := by
  go_enter Tryd.func67, Tryd.ntmps67
  go_wp2_with (go_at_call 79; refine (leap_any _ _).mono ?_; rintro e w' ⟨rfl, rfl⟩)
  all_goals go_ret
  all_goals exact ⟨ret_int (by simp_all [dim]), rfl⟩

set_option maxHeartbeats 400000 in
theorem days_any (y m : Int) (w : World) :
    Calls Tryd.prog 76 #[.int .i64 y, .int .i64 m] w fun e w' => e = .returned (.int .i64 (dim y m)) ∧ w = w' := by
  go_enter Tryd.func76, Tryd.ntmps76
  go_wp2_with (go_at_call 87; refine (rleap_any _ _).mono ?_; rintro e w' ⟨rfl, rfl⟩)
  all_goals go_ret
  all_goals exact ⟨ret_int (by simp_all [dim]), rfl⟩
end Go.Proofs.YtmelcndflllgmaaDoor
