/-
  What the calendar's functions of plain numbers compute: the program's and the reference's.
-/
import Derived.Test.YtfbefjpajmigmaaRows
import Derived.Test.YtfbefjpajmigmaaDateM
import Derived.Test.YtfbefjpajmigmaaUtil
namespace Go.Proofs.Ytfbefjpajmigmaa
open Go.RowKit DateM


set_option maxHeartbeats 400000 in
theorem leap_any (y : Int) (w : World) :
    Calls Try.prog 30 #[.int .i64 y] w fun e w' => e = .returned (.bool (leapB y)) ∧ w = w' := by
  go_enter Try.func30, Try.ntmps30
  go_wp2
  all_goals go_ret
  all_goals exact ⟨ret_bool (by simp [leapB, *]), rfl⟩

set_option maxHeartbeats 400000 in
theorem rleap_any (y : Int) (w : World) :
    Calls Try.prog 31 #[.int .i64 y] w fun e w' => e = .returned (.bool (leapB y)) ∧ w = w' := by
  go_enter Try.func31, Try.ntmps31
  go_wp2
  all_goals go_ret
  all_goals exact ⟨ret_bool (by simp [leapB, *]), rfl⟩

set_option maxHeartbeats 400000 in
theorem leaps_any (y : Int) (w : World) (h0 : 0 ≤ y) (h1 : y ≤ 10000) :
    Calls Try.prog 53 #[.int .i64 y] w fun e w' => e = .returned (.int .i64 (y / 4 - y / 100 + y / 400)) ∧ w = w' := by
  go_enter Try.func53, Try.ntmps53
  go_wp2
  go_ret
  exact ⟨rfl, rfl⟩

set_option maxHeartbeats 400000 in
theorem ahead_any (y : Int) (w : World) (h0 : 1970 ≤ y) (h1 : y ≤ 10000) :
    Calls Try.prog 37 #[.int .i64 y] w fun e w' => e = .returned (.int .i64 (aheadD y)) ∧ w = w' := by
  go_enter Try.func37, Try.ntmps37
  go_wp2_with (go_at_call 53; refine (leaps_any _ _ (by omega) (by omega)).mono ?_; rintro e w' ⟨rfl, rfl⟩)
  go_ret
  exact ⟨ret_int (by unfold aheadD; omega), rfl⟩

set_option maxHeartbeats 400000 in
theorem before_any (y : Int) (w : World) (h0 : 1970 ≤ y) (h1 : y ≤ 10000) :
    Calls Try.prog 39 #[.int .i64 y] w fun e w' => e = .returned (.int .i64 (aheadD y)) ∧ w = w' := by
  go_enter Try.func39, Try.ntmps39
  go_wp2
  go_ret
  exact ⟨ret_int (by unfold aheadD; omega), rfl⟩

set_option maxHeartbeats 400000 in
theorem long_any (y m : Int) (w : World) :
    Calls Try.prog 38 #[.int .i64 y, .int .i64 m] w fun e w' => e = .returned (.int .i64 (dim y m)) ∧ w = w' := by
  go_enter Try.func38, Try.ntmps38
  go_wp2_with (go_at_call 30; refine (leap_any _ _).mono ?_; rintro e w' ⟨rfl, rfl⟩)
  all_goals go_ret
  all_goals exact ⟨ret_int (by simp_all [dim]), rfl⟩

set_option maxHeartbeats 400000 in
theorem days_any (y m : Int) (w : World) :
    Calls Try.prog 40 #[.int .i64 y, .int .i64 m] w fun e w' => e = .returned (.int .i64 (dim y m)) ∧ w = w' := by
  go_enter Try.func40, Try.ntmps40
  go_wp2_with (go_at_call 31; refine (rleap_any _ _).mono ?_; rintro e w' ⟨rfl, rfl⟩)
  all_goals go_ret
  all_goals exact ⟨ret_int (by simp_all [dim]), rfl⟩
end Go.Proofs.Ytfbefjpajmigmaa
