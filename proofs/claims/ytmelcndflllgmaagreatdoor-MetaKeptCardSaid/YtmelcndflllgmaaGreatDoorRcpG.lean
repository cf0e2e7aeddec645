/-
  A version's ticks by a rule: the reference's walk.
-/
import Derived.Test.YtmelcndflllgmaaGreatDoorCpG
import Derived.Test.YtmelcndflllgmaaGreatDoorGrRb
namespace Go.Proofs.YtmelcndflllgmaaGreatDoor
open Go.RowKit
set_option linter.unusedVariables false
set_option linter.unusedSimpArgs false

set_option maxRecDepth 100000 in
set_option maxHeartbeats 16000000 in
theorem rcapply_any (mt : ByteArray) (mk : Bool) (md ln hv fr wh er : Int) (A : Option Addr) (n c : Nat) (tn : ByteArray) (kp : Bool) (mx sh wh2 er2 : Int) (ns nc pv : Bool) (w : World) : Calls Tryz.prog 28 #[.agg #[.string mt, .bool mk, .int .i64 md, .int .i64 ln, .int .i64 hv, .int .i64 (fr), .int .i64 (wh), .int .i64 (er), .slice A n c, .string tn, .bool kp], .agg #[.int .i64 mx, .int .i64 sh, .int .i64 wh2, .int .i64 er2, .bool ns, .bool nc, .bool pv]] w (RApplyOk mt mk md ln hv (.slice A n c) tn mx sh wh2 er2 ns nc pv w) := by
  go_enter Tryz.func28, Tryz.ntmps28
  go_upto_region 1 with fail
  obtain ⟨w1, hw1⟩ : ∃ w1 : World, w1 = ((w.alloc (.cells #[.string mt, .bool mk, .int .i64 md, .int .i64 ln, .int .i64 hv, .int .i64 (fr), .int .i64 (wh), .int .i64 (er), .slice A n c, .string tn, .bool kp] 29)).alloc (.cells #[.int .i64 mx, .int .i64 sh, .int .i64 wh2, .int .i64 er2, .bool ns, .bool nc, .bool pv] 58)).alloc (.cells #[.string ⟨#[]⟩, .bool false, .int .i64 0, .int .i64 0, .int .i64 0, .int .i64 0, .int .i64 0, .int .i64 0, .slice none 0 0, .string ⟨#[]⟩, .bool false] 29) := ⟨_, rfl⟩
  rw [← hw1]
  have hB1 : Below w.heap.size w w1 := by rw [hw1]; exact ((((Below.refl _ _).alloc (Nat.le_refl _) _).alloc (by simp) _).alloc (by simp; omega) _)
  have T1 : Blk w1 w.heap.size 29 #[.string mt, .bool mk, .int .i64 md, .int .i64 ln, .int .i64 hv, .int .i64 (fr), .int .i64 (wh), .int .i64 (er), .slice A n c, .string tn, .bool kp] := by rw [hw1]; exact ((Blk.new _ _ _).alloc _).alloc _
  have R1 : Blk w1 (w.heap.size + 1) 58 #[.int .i64 mx, .int .i64 sh, .int .i64 wh2, .int .i64 er2, .bool ns, .bool nc, .bool pv] := by rw [hw1]; exact (Blk.new' (by simp)).alloc _
  have Z1 : Blk w1 (w.heap.size + 2) 29 #[.string ⟨#[]⟩, .bool false, .int .i64 0, .int .i64 0, .int .i64 0, .int .i64 0, .int .i64 0, .int .i64 0, .slice none 0 0, .string ⟨#[]⟩, .bool false] := by rw [hw1]; exact Blk.new' (by simp)
  clear hw1
  have T3 := T1
  have R3 := R1
  have Z3 := Z1
  have hB3 := hB1
  clear T1 R1 Z1 hB1
  have cT := T3.cell
  have fT := T3.frozen
  have cR := R3.cell
  go_cut [] (fun wx => Blk wx w.heap.size 29 #[.string mt, .bool mk, .int .i64 md, .int .i64 ln, .int .i64 hv, .int .i64 (fr), .int .i64 (wh), .int .i64 (er), .slice A n c, .string tn, .bool (keepV ns pv)] ∧ Blk wx (w.heap.size + 1) 58 #[.int .i64 mx, .int .i64 sh, .int .i64 wh2, .int .i64 er2, .bool ns, .bool nc, .bool pv] ∧ Blk wx (w.heap.size + 2) 29 #[.string ⟨#[]⟩, .bool false, .int .i64 0, .int .i64 0, .int .i64 0, .int .i64 0, .int .i64 0, .int .i64 0, .slice none 0 0, .string ⟨#[]⟩, .bool false] ∧ Below w.heap.size w wx)
  case first =>
    cases ns <;> cases pv
    all_goals (go_wp2_with fail; go_meet)
    all_goals exact ⟨by simpa [keepV] using T3.set_ 10 _, R3.far (by show w.heap.size + 1 ≠ w.heap.size; omega) _, Z3.far (by show w.heap.size + 2 ≠ w.heap.size; omega) _, below_set hB3 (Nat.le_refl _) _⟩
  case rest =>
    obtain ⟨T4, R4, Z4, hB4⟩ := hcut
    clear cT fT cR T3 R3 Z3 hB3
    have cT := T4.cell
    have fT := T4.frozen
    go_upto_region 5 with fail
    obtain ⟨w5, hw5⟩ : ∃ w5 : World, w5 = ((wc.setCell ⟨w.heap.size, 5, none⟩ (.int .i64 0)).setCell ⟨w.heap.size, 6, none⟩ (.int .i64 0)).setCell ⟨w.heap.size, 7, none⟩ (.int .i64 0) := ⟨_, rfl⟩
    rw [← hw5]
    have T5 : Blk w5 w.heap.size 29 #[.string mt, .bool mk, .int .i64 md, .int .i64 ln, .int .i64 hv, .int .i64 (0), .int .i64 (0), .int .i64 (0), .slice A n c, .string tn, .bool (keepV ns pv)] := by rw [hw5]; simpa using ((T4.set_ 5 (.int .i64 0)).set_ 6 (.int .i64 0)).set_ 7 (.int .i64 0)
    have R5 : Blk w5 (w.heap.size + 1) 58 #[.int .i64 mx, .int .i64 sh, .int .i64 wh2, .int .i64 er2, .bool ns, .bool nc, .bool pv] := by rw [hw5]; (repeat (refine Blk.far ?_ (by show w.heap.size + 1 ≠ w.heap.size; omega) _)); exact R4
    have Z5 : Blk w5 (w.heap.size + 2) 29 #[.string ⟨#[]⟩, .bool false, .int .i64 0, .int .i64 0, .int .i64 0, .int .i64 0, .int .i64 0, .int .i64 0, .slice none 0 0, .string ⟨#[]⟩, .bool false] := by rw [hw5]; (repeat (refine Blk.far ?_ (by show w.heap.size + 2 ≠ w.heap.size; omega) _)); exact Z4
    have hB5 : Below w.heap.size w w5 := by rw [hw5]; (repeat (refine below_set ?_ (Nat.le_refl _) _)); exact hB4
    have lT := T5.lt
    have lZ := Z5.lt
    clear cT fT T4 R4 Z4 hB4 hw5
    have cT := T5.cell
    have fT := T5.frozen
    have cR := R5.cell
    have cZ := Z5.cell
    have fZ := Z5.frozen
    cases nc
    · by_cases h1 : 0 ≤ sh
      · have d1 : decide (0 ≤ sh) = true := decide_eq_true h1
        have HF := hide (show freshV mx sh false = withinV sh by unfold freshV; simp [h1])
        have HW := hide (show whileV wh2 false = withinV wh2 by unfold whileV; simp)
        have HE := hide (show whileV er2 false = withinV er2 by unfold whileV; simp)
        go_wp2_with fail
        refine (rsaid_any _ _).mono ?_
        rintro e w' ⟨rfl, rfl⟩
        go_wp2_with fail
        refine (rsaid_any _ _).mono ?_
        rintro e w' ⟨rfl, rfl⟩
        go_wp2_with fail
        refine (rsaid_any _ _).mono ?_
        rintro e w' ⟨rfl, rfl⟩
        go_wp2_with fail
        refine (rsaid_any _ _).mono ?_
        rintro e w' ⟨rfl, rfl⟩
        go_wp2_with fail
        refine bodyPost_ret (v := .agg #[.string mt, .bool mk, .int .i64 md, .int .i64 ln, .int .i64 hv, .int .i64 (withinV sh), .int .i64 (withinV wh2), .int .i64 (withinV er2), .slice A n c, .string tn, .bool (keepV ns pv)]) (by simp [results, Tryz.results28, go_sem, cT, cZ]) rfl ?_
        refine ⟨by rw [HF.out, HW.out, HE.out], by (repeat (refine below_set ?_ (by omega) _)); exact hB5⟩
      · have d1 : decide (0 ≤ sh) = false := decide_eq_false h1
        have HF := hide (show freshV mx sh false = withinV mx by unfold freshV; simp [h1])
        have HW := hide (show whileV wh2 false = withinV wh2 by unfold whileV; simp)
        have HE := hide (show whileV er2 false = withinV er2 by unfold whileV; simp)
        go_wp2_with fail
        refine (rsaid_any _ _).mono ?_
        rintro e w' ⟨rfl, rfl⟩
        go_wp2_with fail
        refine (rsaid_any _ _).mono ?_
        rintro e w' ⟨rfl, rfl⟩
        go_wp2_with fail
        refine (rsaid_any _ _).mono ?_
        rintro e w' ⟨rfl, rfl⟩
        go_wp2_with fail
        refine bodyPost_ret (v := .agg #[.string mt, .bool mk, .int .i64 md, .int .i64 ln, .int .i64 hv, .int .i64 (withinV mx), .int .i64 (withinV wh2), .int .i64 (withinV er2), .slice A n c, .string tn, .bool (keepV ns pv)]) (by simp [results, Tryz.results28, go_sem, cT, cZ]) rfl ?_
        refine ⟨by rw [HF.out, HW.out, HE.out], by (repeat (refine below_set ?_ (by omega) _)); exact hB5⟩
    · have HF := hide (show freshV mx sh true = 0 from rfl)
      have HW := hide (show whileV wh2 true = 0 from rfl)
      have HE := hide (show whileV er2 true = 0 from rfl)
      go_wp2_with fail
      refine bodyPost_ret (v := .agg #[.string mt, .bool mk, .int .i64 md, .int .i64 ln, .int .i64 hv, .int .i64 (0), .int .i64 (0), .int .i64 (0), .slice A n c, .string tn, .bool (keepV ns pv)]) (by simp [results, Tryz.results28, go_sem, cT, cZ]) rfl ?_
      refine ⟨by rw [HF.out, HW.out, HE.out], by (repeat (refine below_set ?_ (by omega) _)); exact hB5⟩

end Go.Proofs.YtmelcndflllgmaaGreatDoor
