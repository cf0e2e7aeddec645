/-
  A version's ticks as a rule: the reference's functions.
-/
import Derived.Test.YtkkhiahdmlmecaaDoorCtlA
import Derived.Deep.DeepCutAuto
import Derived.Deep.RegionHeld3
namespace Go.Proofs.YtkkhiahdmlmecaaDoor
open Go.RowKit
set_option linter.unusedVariables false
set_option linter.unusedSimpArgs false

def capV (n : Int) : Int := min n 1099511627776
theorem with_cap (n : Int) : withinV n = if n < 0 then 0 else capV n := by unfold withinV capV; split <;> omega

set_option maxHeartbeats 400000 in
theorem rmost_any (w : World) : Calls Tryd.prog 57 #[] w (IntIs 1099511627776 w) := by
  go_enter Tryd.func57, Tryd.ntmps57
  go_wp2
  go_ret
  exact ⟨rfl, rfl⟩

set_option maxHeartbeats 1000000 in
theorem rcap_any (n : Int) (w : World) : Calls Tryd.prog 34 #[.int .i64 n] w (IntIs (capV n) w) := by
  by_cases h : 1099511627776 < n
  · have d1 : decide (1099511627776 < n) = true := by simpa using h
    have hx := hide (show capV n = 1099511627776 by unfold capV; omega)
    go_enter Tryd.func34, Tryd.ntmps34
    go_wp2_with fail
    refine (rmost_any _).mono ?_
    rintro e w' ⟨rfl, rfl⟩
    go_wp2_with fail
    refine (rmost_any _).mono ?_
    rintro e w' ⟨rfl, rfl⟩
    go_wp2
    go_ret
    exact ⟨ret_int hx.out.symm, rfl⟩
  · have d1 : decide (1099511627776 < n) = false := by simpa using h
    have hx := hide (show capV n = n by unfold capV; omega)
    go_enter Tryd.func34, Tryd.ntmps34
    go_wp2_with fail
    refine (rmost_any _).mono ?_
    rintro e w' ⟨rfl, rfl⟩
    go_wp2
    go_ret
    exact ⟨ret_int hx.out.symm, rfl⟩

set_option maxHeartbeats 1000000 in
theorem rsaid_any (n : Int) (w : World) : Calls Tryd.prog 36 #[.int .i64 n] w (IntIs (withinV n) w) := by
  by_cases h : n < 0
  · have d1 : decide (n < 0) = true := by simpa using h
    have hx := hide (show withinV n = 0 by unfold withinV; omega)
    go_enter Tryd.func36, Tryd.ntmps36
    go_wp2
    go_ret
    exact ⟨ret_int hx.out.symm, rfl⟩
  · have d1 : decide (n < 0) = false := by simpa using h
    have hx := hide (show withinV n = capV n by rw [with_cap, if_neg h])
    go_enter Tryd.func36, Tryd.ntmps36
    go_wp2_with fail
    refine (rcap_any _ _).mono ?_
    rintro e w' ⟨rfl, rfl⟩
    go_wp2
    go_ret
    exact ⟨ret_int hx.out.symm, rfl⟩

set_option maxHeartbeats 1000000 in
theorem rsome_any (n : Int) (w : World) : Calls Tryd.prog 37 #[.int .i64 n] w (IntIs (swrV n) w) := by
  by_cases h : withinV n = 0
  · have d1 : (withinV n == 0) = true := by simpa using h
    have hx := hide (show swrV n = -1 by unfold swrV; rw [if_pos h])
    clear h
    go_enter Tryd.func37, Tryd.ntmps37
    go_wp2_with fail
    refine (rsaid_any _ _).mono ?_
    rintro e w' ⟨rfl, rfl⟩
    go_wp2
    go_ret
    exact ⟨ret_int hx.out.symm, rfl⟩
  · have d1 : (withinV n == 0) = false := by simpa using h
    have hx := hide (show swrV n = withinV n by unfold swrV; rw [if_neg h])
    clear h
    go_enter Tryd.func37, Tryd.ntmps37
    go_wp2_with fail
    refine (rsaid_any _ _).mono ?_
    rintro e w' ⟨rfl, rfl⟩
    go_wp2_with fail
    refine (rsaid_any _ _).mono ?_
    rintro e w' ⟨rfl, rfl⟩
    go_wp2
    go_ret
    exact ⟨ret_int hx.out.symm, rfl⟩

set_option maxRecDepth 100000 in
set_option maxHeartbeats 4000000 in
theorem rof_any (mt : ByteArray) (mk : Bool) (md ln hv fr wh er : Int) (kv : Value) (tn : ByteArray) (kp : Bool) (w : World) : Calls Tryd.prog 23 #[.agg #[.string mt, .bool mk, .int .i64 md, .int .i64 ln, .int .i64 hv, .int .i64 fr, .int .i64 wh, .int .i64 er, kv, .string tn, .bool kp]] w (AggIs (ofC fr wh er kp) w) := by
  go_enter Tryd.func23, Tryd.ntmps23
  go_upto_region 1 with fail
  obtain ⟨w1, hw1⟩ : ∃ w1 : World, w1 = ((w).alloc (.cells #[.string mt, .bool mk, .int .i64 md, .int .i64 ln, .int .i64 hv, .int .i64 fr, .int .i64 wh, .int .i64 er, kv, .string tn, .bool kp] 39)).alloc (.cells #[.int .i64 0, .int .i64 0, .int .i64 0, .int .i64 0, .bool false, .bool false, .bool false] 29) := ⟨_, rfl⟩
  rw [← hw1]
  have hB1 : Below w.heap.size w w1 := by rw [hw1]; exact (((Below.refl _ _).alloc (Nat.le_refl _) _).alloc (by simp; try omega) _)
  have T : Blk w1 (w.heap.size) 39 #[.string mt, .bool mk, .int .i64 md, .int .i64 ln, .int .i64 hv, .int .i64 fr, .int .i64 wh, .int .i64 er, kv, .string tn, .bool kp] := by rw [hw1]; exact ((Blk.new _ _ _).alloc _)
  have R : Blk w1 (w.heap.size + 1) 29 #[.int .i64 0, .int .i64 0, .int .i64 0, .int .i64 0, .bool false, .bool false, .bool false] := by rw [hw1]; exact (Blk.new' (by simp))
  clear hw1
  have cT := T.cell
  have cR := R.cell
  have k5 : w1.cell? ⟨w.heap.size, 5, none⟩ = some (.int .i64 fr) := T.cell 5
  have k6 : w1.cell? ⟨w.heap.size, 6, none⟩ = some (.int .i64 wh) := T.cell 6
  have k7 : w1.cell? ⟨w.heap.size, 7, none⟩ = some (.int .i64 er) := T.cell 7
  have k10 : w1.cell? ⟨w.heap.size, 10, none⟩ = some (.bool kp) := T.cell 10
  have HR := hide R
  have fR := R.frozen
  have HB := hide hB1
  clear cT T R hB1
  go_region_held3 (fun W => W.cell? ⟨w.heap.size, 5, none⟩ = some (.int .i64 fr) ∧ W.cell? ⟨w.heap.size, 6, none⟩ = some (.int .i64 wh) ∧ W.cell? ⟨w.heap.size, 7, none⟩ = some (.int .i64 er) ∧ W.cell? ⟨w.heap.size, 10, none⟩ = some (.bool kp)) (go_keep)
    (first | (go_at_call 36; refine (rsaid_any _ _).mono ?_; rintro e w8 ⟨rfl, rfl⟩) | (go_at_call 37; refine (rsome_any _ _).mono ?_; rintro e w8 ⟨rfl, rfl⟩))
  all_goals (go_wp2_with fail)
  all_goals exact bodyPost_ret (v := .agg (ofC fr wh er kp)) (by simp [results, Tryd.results23, go_sem, ofC, cR]) rfl ⟨rfl, Below.drew (by (iterate 7 (refine below_set ?_ (Nat.le_add_right _ _) _)); exact HB.out)⟩

end Go.Proofs.YtkkhiahdmlmecaaDoor
