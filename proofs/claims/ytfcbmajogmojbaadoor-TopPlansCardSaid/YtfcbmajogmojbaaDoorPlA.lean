/-
  Slices and plans: small functions at the units of the nodes.
-/
import Derived.Test.YtfcbmajogmojbaaDoorRngG
import Derived.Test.YtfcbmajogmojbaaDoorPlanM
namespace Go.Proofs.YtfcbmajogmojbaaDoor
open Go.RowKit
set_option linter.unusedVariables false
set_option linter.unusedSimpArgs false

theorem wrap64_id {x : Int} (h1 : -9223372036854775808 ≤ x) (h2 : x ≤ 9223372036854775807) : IntKind.i64.wrap x = x := by
  rw [IntKind.wrap_i64]; omega

set_option maxRecDepth 100000 in
set_option maxHeartbeats 2000000 in
theorem unitary_4 (w : World) : Calls Tryd.prog 34 #[.int .i64 4] w fun e w' => e = .returned (.bool true) ∧ w = w' := by
  go_enter Tryd.func34, Tryd.ntmps34
  go_wp2
  go_ret
  exact ⟨rfl, rfl⟩

set_option maxRecDepth 100000 in
set_option maxHeartbeats 2000000 in
theorem lengthy_120 (w : World) : Calls Tryd.prog 35 #[.int .i64 120] w fun e w' => e = .returned (.bool true) ∧ w = w' := by
  go_enter Tryd.func35, Tryd.ntmps35
  go_wp2
  go_ret
  exact ⟨rfl, rfl⟩

set_option maxRecDepth 100000 in
set_option maxHeartbeats 2000000 in
theorem measures_4 (w : World) : Calls Tryd.prog 53 #[.int .i64 120, .int .i64 4] w fun e w' => e = .returned (.bool true) ∧ w = w' := by
  go_enter Tryd.func53, Tryd.ntmps53
  go_wp2
  go_ret
  exact ⟨rfl, rfl⟩

set_option maxRecDepth 100000 in
set_option maxHeartbeats 2000000 in
theorem object_120 (w : World) : Calls Tryd.prog 40 #[.int .i64 120] w fun e w' => e = .returned (.agg #[.int .i64 0, .int .i64 120]) ∧ Below w.heap.size w w' := by
  go_enter Tryd.func40, Tryd.ntmps40
  go_wp2
  have cX := (Blk.new w 31 #[.int .i64 0, .int .i64 120]).cell
  refine bodyPost_ret (v := .agg #[.int .i64 0, .int .i64 120]) (by simp [results, Tryd.results40, go_sem, cX]) rfl ?_
  exact ⟨rfl, ((Below.refl _ _).alloc (Nat.le_refl _) _)⟩

set_option maxRecDepth 100000 in
set_option maxHeartbeats 2000000 in
theorem conf_any (w : World) : Calls Tryd.prog 17 #[] w fun e w' => e = .returned (.agg #[.int .i64 4, .int .i64 0, .int .i64 64, .int .i64 8, .int .i64 2, .int .i64 1, .int .i64 8, .int .i64 400, .int .i64 400, .int .i64 16]) ∧ Below w.heap.size w w' := by
  go_enter Tryd.func17, Tryd.ntmps17
  go_wp2
  have cX := (Blk.new w 47 #[.int .i64 4, .int .i64 0, .int .i64 64, .int .i64 8, .int .i64 2, .int .i64 1, .int .i64 8, .int .i64 400, .int .i64 400, .int .i64 16]).cell
  refine bodyPost_ret (v := .agg #[.int .i64 4, .int .i64 0, .int .i64 64, .int .i64 8, .int .i64 2, .int .i64 1, .int .i64 8, .int .i64 400, .int .i64 400, .int .i64 16]) (by simp [results, Tryd.results17, go_sem, cX]) rfl ?_
  exact ⟨rfl, ((Below.refl _ _).alloc (Nat.le_refl _) _)⟩

set_option maxRecDepth 100000 in
set_option maxHeartbeats 2000000 in
theorem sspan_any (no : Int) (hno : 0 ≤ no ∧ no < 30) (w : World) : Calls Tryd.prog 18 #[.int .i64 no, .int .i64 4, .int .i64 120] w fun e w' => e = .returned (.agg #[.int .i64 (no * 4), .int .i64 (no * 4 + 4)]) ∧ Below w.heap.size w w' := by
  have h0 : decide (no < 0) = false := decide_eq_false (by omega)
  have h1 : decide (no ≥ 274877906944) = false := decide_eq_false (by omega)
  have e1 : IntKind.i64.wrap (no * 4) = no * 4 := wrap64_id (by omega) (by omega)
  have e2 : IntKind.i64.wrap (no + 1) = no + 1 := wrap64_id (by omega) (by omega)
  go_enter Tryd.func18, Tryd.ntmps18
  go_upto_region 1 with fail
  go_wp2_with fail
  refine (unitary_4 _).mono ?_
  rintro e w' ⟨rfl, rfl⟩
  go_wp2_with fail
  refine (lengthy_120 _).mono ?_
  rintro e w' ⟨rfl, rfl⟩
  go_wp2_with fail
  have cX := ((Blk.new w 31 #[.int .i64 (no * 4), .int .i64 ((no + 1) * 4)]).alloc (.cells #[.int .i64 (no * 4), .int .i64 ((no + 1) * 4)] 31)).cell
  refine bodyPost_ret (v := .agg #[.int .i64 (no * 4), .int .i64 ((no + 1) * 4)]) (by simp [results, Tryd.results18, go_sem, cX]) rfl ?_
  exact ⟨by rw [show (no + 1) * 4 = no * 4 + 4 by omega], (((Below.refl _ _).alloc (Nat.le_refl _) _).alloc (by simp) _)⟩

set_option maxRecDepth 100000 in
set_option maxHeartbeats 2000000 in
theorem align_any (a b : Int) (h0 : 0 ≤ a) (hab : a < b) (hb : b ≤ 120) (w : World) : Calls Tryd.prog 72 #[.agg #[.int .i64 a, .int .i64 b], .int .i64 4] w fun e w' => e = .returned (.tuple #[.agg #[.int .i64 (alignS (a, b)).1, .int .i64 (alignS (a, b)).2], .int .i64 0]) ∧ Below w.heap.size w w' := by
  have HR : rightB a b = true := by unfold rightB; simp; omega
  go_enter Tryd.func72, Tryd.ntmps72
  go_upto_region 1 with fail
  obtain ⟨w1, hw1⟩ : ∃ w1 : World, w1 = ((w).alloc (.cells #[.int .i64 a, .int .i64 b] 31)).alloc (.cells #[.int .i64 0, .int .i64 0] 31) := ⟨_, rfl⟩
  rw [← hw1]
  have hB1 : Below w.heap.size w w1 := by rw [hw1]; exact (((Below.refl _ _).alloc (Nat.le_refl _) _).alloc (by simp; try omega) _)
  have X : Blk w1 (w.heap.size) 31 #[.int .i64 a, .int .i64 b] := by rw [hw1]; exact ((Blk.new _ _ _).alloc _)
  have Z : Blk w1 (w.heap.size + 1) 31 #[.int .i64 0, .int .i64 0] := by rw [hw1]; exact (Blk.new' (by simp))
  clear hw1
  have cX := X.cell
  have cZ := Z.cell
  go_wp2_with fail
  refine (sright_any a b w1).mono ?_
  rw [HR]
  rintro e w2 ⟨rfl, hb2⟩
  have hB2 := hB1.trans (hb2.mono hB1.size)
  replace X := X.below hb2 X.lt
  replace Z := Z.below hb2 Z.lt
  clear cX cZ hb2
  have cX := X.cell
  have cZ := Z.cell
  have fZ := Z.frozen
  have lX := X.lt
  have lZ := Z.lt
  have e1 : IntKind.i64.wrap (a - a % 4) = a - a % 4 := wrap64_id (by omega) (by omega)
  go_upto_region 3 with fail
  go_region
  obtain ⟨w3, hw3⟩ : ∃ W : World, W = (w2.alloc (.cells #[.int .i64 (a - a % 4), .int .i64 b] 31)).drew := ⟨_, rfl⟩
  rw [← hw3]
  obtain ⟨gy, hgy⟩ : ∃ n, n = w2.heap.size := ⟨_, rfl⟩
  have hB3 : Below w.heap.size w w3 := by rw [hw3]; exact (hB2.alloc hB2.size _).drew
  have Y : Blk w3 gy 31 #[.int .i64 (a - a % 4), .int .i64 b] := by rw [hw3, hgy]; exact (Blk.new _ _ _).drew
  replace X : Blk w3 w.heap.size 31 #[.int .i64 a, .int .i64 b] := by rw [hw3]; exact (X.alloc _).drew
  replace Z : Blk w3 (w.heap.size + 1) 31 #[.int .i64 0, .int .i64 0] := by rw [hw3]; exact (Z.alloc _).drew
  have hgz : w.heap.size + 1 < gy := by omega
  rw [← hgy]
  clear hw3 hgy cX cZ fZ lX lZ
  have cX := X.cell
  have cY := Y.cell
  have fY := Y.frozen
  have lY := Y.lt
  by_cases hq : b % 4 = 0
  · have Z9 := hide (set2 Z (.int .i64 (a - a % 4)) (.int .i64 b))
    have fZ := Z.frozen
    have cZ := Z.cell
    have lZ := Z.lt
    have dq : (b % 4 != 0) = false := by simp [hq]
    have HB9 := hide (below_set (below_set hB3 (g := w.heap.size + 1) (i := 0) (by omega) (.int .i64 (a - a % 4))) (g := w.heap.size + 1) (i := 1) (by omega) (.int .i64 b))
    go_wp2_with fail
    have c9 := Z9.out.cell
    refine bodyPost_ret (v := .tuple #[.agg #[.int .i64 (a - a % 4), .int .i64 b], .int .i64 0]) (by simp [results, Tryd.results72, go_sem, c9]) rfl ?_
    exact ⟨by unfold alignS; simp [hq], HB9.out⟩
  · have dq : (b % 4 != 0) = true := by simp [hq]
    have e2 : IntKind.i64.wrap (b - b % 4) = b - b % 4 := wrap64_id (by omega) (by omega)
    have e3 : IntKind.i64.wrap (b - b % 4 + 4) = b - b % 4 + 4 := wrap64_id (by omega) (by omega)
    have hmin : min (b - b % 4 + 4) 4611686018427387904 = b - b % 4 + 4 := by omega
    have Y9 := hide (show Blk (w3.setCell ⟨gy, 1, none⟩ (.int .i64 (b - b % 4 + 4))) gy 31 #[.int .i64 (a - a % 4), .int .i64 (b - b % 4 + 4)] by simpa using Y.set_ 1 (.int .i64 (b - b % 4 + 4)))
    have Z0 := hide (Z.far (p := ⟨gy, 1, none⟩) (by show w.heap.size + 1 ≠ gy; omega) (.int .i64 (b - b % 4 + 4)))
    have HB0 := hide (below_set hB3 (g := gy) (i := 1) (by omega) (.int .i64 (b - b % 4 + 4)))
    go_upto_region 7 with fail
    obtain ⟨w4, hw4⟩ : ∃ W : World, W = w3.setCell ⟨gy, 1, none⟩ (.int .i64 (b - b % 4 + 4)) := ⟨_, rfl⟩
    rw [← hw4] at Y9 Z0 HB0 ⊢
    clear hw4 X Y Z cX cY fY lY hB3
    have cY := Y9.out.cell
    have fZ := Z0.out.frozen
    have cZ := Z0.out.cell
    have lZ := Z0.out.lt
    have Z9 := hide (set2 Z0.out (.int .i64 (a - a % 4)) (.int .i64 (b - b % 4 + 4)))
    have HB9 := hide (below_set (below_set HB0.out (g := w.heap.size + 1) (i := 0) (by omega) (.int .i64 (a - a % 4))) (g := w.heap.size + 1) (i := 1) (by omega) (.int .i64 (b - b % 4 + 4)))
    go_wp2_with fail
    have c9 := Z9.out.cell
    refine bodyPost_ret (v := .tuple #[.agg #[.int .i64 (a - a % 4), .int .i64 (b - b % 4 + 4)], .int .i64 0]) (by simp [results, Tryd.results72, go_sem, c9]) rfl ?_
    exact ⟨by unfold alignS; simp [hq], HB9.out⟩

end Go.Proofs.YtfcbmajogmojbaaDoor
