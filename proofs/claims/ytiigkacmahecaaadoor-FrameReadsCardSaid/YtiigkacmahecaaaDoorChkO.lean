/-
  The reference's reader of a chunked body: a step, at a size's digits.
-/
import Derived.Test.YtiigkacmahecaaaDoorChkE
namespace Go.Proofs.YtiigkacmahecaaaDoor
open Go.RowKit
set_option linter.unusedVariables false
set_option linter.unusedSimpArgs false

set_option maxRecDepth 100000 in
set_option maxHeartbeats 8000000 in
theorem rstep_0a (sz dg tr : Nat) (w : World) (I : Inv ⟨0, sz, dg, dg, tr⟩) : Calls Tryd.prog 64 #[.agg #[.int .i64 0, .int .i64 (dg : Nat), .int .i64 (dg : Nat), .int .i64 (tr : Nat), .int .i64 (sz : Nat)], .int .u8 13] w (RStep (stepM ⟨0, sz, dg, dg, tr⟩ 13) w) := by
  have hb := I.big
  have hdg := I.digits
  simp only at hb hdg
  by_cases hd : dg = 0
  · have hx := hide (show stepM ⟨0, sz, dg, dg, tr⟩ 13 = none by simp [stepM, digV, hd])
    have dd : decide (0 < dg) = false := by simp; omega
    clear hd
    go_enter Tryd.func64, Tryd.ntmps64
    go_upto_region 5 with fail
    obtain ⟨w1, hw1⟩ : ∃ w1 : World, w1 = ((w).alloc (.cells #[.int .i64 2, .int .i64 (dg : Nat), .int .i64 (dg : Nat), .int .i64 (tr : Nat), .int .i64 (sz : Nat)] 77)).alloc (.cells #[.int .i64 0, .int .i64 0, .int .i64 0, .int .i64 0, .int .i64 0] 77) := ⟨_, rfl⟩
    rw [← hw1]
    have hB1 : Below w.heap.size w w1 := by rw [hw1]; exact (((Below.refl _ _).alloc (Nat.le_refl _) _).alloc (by simp; try omega) _)
    have Z0 : Blk w1 (w.heap.size) 77 #[.int .i64 2, .int .i64 (dg : Nat), .int .i64 (dg : Nat), .int .i64 (tr : Nat), .int .i64 (sz : Nat)] := by rw [hw1]; exact ((Blk.new _ _ _).alloc _)
    have Z1 : Blk w1 (w.heap.size + 1) 77 #[.int .i64 0, .int .i64 0, .int .i64 0, .int .i64 0, .int .i64 0] := by rw [hw1]; exact (Blk.new' (by simp))
    clear hw1
    have c0 := Z0.cell
    have f0 := Z0.frozen
    have l0 := Z0.lt
    have c1 := Z1.cell
    have f1 := Z1.frozen
    have l1 := Z1.lt
    go_cut [5, 6] (fun b5 b6 wx => b5 = .bool false ∧ b6 = .bool false ∧ Blk wx (w.heap.size + 1) 77 #[.int .i64 2, .int .i64 (dg : Nat), .int .i64 (dg : Nat), .int .i64 (tr : Nat), .int .i64 (sz : Nat)] ∧ Below w.heap.size w wx)
    case first =>
      go_region
      all_goals (go_wp2_with fail; go_meet)
      all_goals with_reducible exact ⟨rfl, rfl, (five Z1).drew, bel5 hB1 (by omega)⟩
    case rest =>
      obtain ⟨rfl, rfl, Z2, hb2⟩ := hcut
      have c2 := Z2.cell
      go_wp2_with fail
      exact bodyPost_ret (v := .tuple #[.agg #[.int .i64 2, .int .i64 (dg : Nat), .int .i64 (dg : Nat), .int .i64 (tr : Nat), .int .i64 (sz : Nat)], .bool false, .bool false]) (by simp [results, Tryd.results64, go_sem, c2]) rfl (rpost_none hx (hb2))
  · have hx := hide (show stepM ⟨0, sz, dg, dg, tr⟩ 13 = some (⟨2, sz, dg, dg, tr⟩, false) by simp [stepM, digV, hd])
    have dd : decide (0 < dg) = true := by simp; omega
    clear hd
    go_enter Tryd.func64, Tryd.ntmps64
    go_upto_region 5 with fail
    obtain ⟨w1, hw1⟩ : ∃ w1 : World, w1 = ((w).alloc (.cells #[.int .i64 2, .int .i64 (dg : Nat), .int .i64 (dg : Nat), .int .i64 (tr : Nat), .int .i64 (sz : Nat)] 77)).alloc (.cells #[.int .i64 0, .int .i64 0, .int .i64 0, .int .i64 0, .int .i64 0] 77) := ⟨_, rfl⟩
    rw [← hw1]
    have hB1 : Below w.heap.size w w1 := by rw [hw1]; exact (((Below.refl _ _).alloc (Nat.le_refl _) _).alloc (by simp; try omega) _)
    have Z0 : Blk w1 (w.heap.size) 77 #[.int .i64 2, .int .i64 (dg : Nat), .int .i64 (dg : Nat), .int .i64 (tr : Nat), .int .i64 (sz : Nat)] := by rw [hw1]; exact ((Blk.new _ _ _).alloc _)
    have Z1 : Blk w1 (w.heap.size + 1) 77 #[.int .i64 0, .int .i64 0, .int .i64 0, .int .i64 0, .int .i64 0] := by rw [hw1]; exact (Blk.new' (by simp))
    clear hw1
    have c0 := Z0.cell
    have f0 := Z0.frozen
    have l0 := Z0.lt
    have c1 := Z1.cell
    have f1 := Z1.frozen
    have l1 := Z1.lt
    go_cut [5, 6] (fun b5 b6 wx => b5 = .bool false ∧ b6 = .bool true ∧ Blk wx (w.heap.size + 1) 77 #[.int .i64 2, .int .i64 (dg : Nat), .int .i64 (dg : Nat), .int .i64 (tr : Nat), .int .i64 (sz : Nat)] ∧ Below w.heap.size w wx)
    case first =>
      go_region
      all_goals (go_wp2_with fail; go_meet)
      all_goals with_reducible exact ⟨rfl, rfl, (five Z1).drew, bel5 hB1 (by omega)⟩
    case rest =>
      obtain ⟨rfl, rfl, Z2, hb2⟩ := hcut
      have c2 := Z2.cell
      go_wp2_with fail
      exact bodyPost_ret (v := .tuple #[.agg #[.int .i64 2, .int .i64 (dg : Nat), .int .i64 (dg : Nat), .int .i64 (tr : Nat), .int .i64 (sz : Nat)], .bool false, .bool true]) (by simp [results, Tryd.results64, go_sem, c2]) rfl (rpost_some hx (relC_mk (l := (dg : Int)) (by omega) (by omega) (by simp <;> omega) (by simp [stN] <;> omega)) (hb2))

set_option maxRecDepth 100000 in
set_option maxHeartbeats 8000000 in
theorem rstep_0b (sz dg tr : Nat) (w : World) (I : Inv ⟨0, sz, dg, dg, tr⟩) (hd : dg ≠ 0) : Calls Tryd.prog 64 #[.agg #[.int .i64 0, .int .i64 (dg : Nat), .int .i64 (dg : Nat), .int .i64 (tr : Nat), .int .i64 (sz : Nat)], .int .u8 59] w (RStep (stepM ⟨0, sz, dg, dg, tr⟩ 59) w) := by
  have hb := I.big
  have hdg := I.digits
  simp only at hb hdg
  have hx := hide (show stepM ⟨0, sz, dg, dg, tr⟩ 59 = some (⟨1, sz, dg, dg + 1, tr⟩, false) by simp [stepM, digV, hd, putM, plainC]; omega)
  have dd : decide (0 < dg) = true := by simp; omega
  have df : decide ((dg : Int) + 1 ≤ 200) = true := by simp; omega
  go_enter Tryd.func64, Tryd.ntmps64
  go_upto_region 9 with fail
  obtain ⟨w1, hw1⟩ : ∃ w1 : World, w1 = ((w).alloc (.cells #[.int .i64 1, .int .i64 (dg : Nat), .int .i64 ((dg : Int) + 1), .int .i64 (tr : Nat), .int .i64 (sz : Nat)] 77)).alloc (.cells #[.int .i64 0, .int .i64 0, .int .i64 0, .int .i64 0, .int .i64 0] 77) := ⟨_, rfl⟩
  rw [← hw1]
  have hB1 : Below w.heap.size w w1 := by rw [hw1]; exact (((Below.refl _ _).alloc (Nat.le_refl _) _).alloc (by simp; try omega) _)
  have Z0 : Blk w1 (w.heap.size) 77 #[.int .i64 1, .int .i64 (dg : Nat), .int .i64 ((dg : Int) + 1), .int .i64 (tr : Nat), .int .i64 (sz : Nat)] := by rw [hw1]; exact ((Blk.new _ _ _).alloc _)
  have Z1 : Blk w1 (w.heap.size + 1) 77 #[.int .i64 0, .int .i64 0, .int .i64 0, .int .i64 0, .int .i64 0] := by rw [hw1]; exact (Blk.new' (by simp))
  clear hw1
  have c0 := Z0.cell
  have f0 := Z0.frozen
  have l0 := Z0.lt
  have c1 := Z1.cell
  have f1 := Z1.frozen
  have l1 := Z1.lt
  go_cut [5, 6] (fun b5 b6 wx => b5 = .bool false ∧ b6 = .bool true ∧ Blk wx (w.heap.size + 1) 77 #[.int .i64 1, .int .i64 (dg : Nat), .int .i64 ((dg : Int) + 1), .int .i64 (tr : Nat), .int .i64 (sz : Nat)] ∧ Below w.heap.size w wx)
  case first =>
    go_region
    all_goals (go_wp2_with fail; go_meet)
    all_goals with_reducible exact ⟨rfl, rfl, (five Z1).drew, bel5 hB1 (by omega)⟩
  case rest =>
    obtain ⟨rfl, rfl, Z2, hb2⟩ := hcut
    have c2 := Z2.cell
    go_wp2_with fail
    exact bodyPost_ret (v := .tuple #[.agg #[.int .i64 1, .int .i64 (dg : Nat), .int .i64 ((dg : Int) + 1), .int .i64 (tr : Nat), .int .i64 (sz : Nat)], .bool false, .bool true]) (by simp [results, Tryd.results64, go_sem, c2]) rfl (rpost_some hx (relC_mk (l := ((dg : Int) + 1)) (by omega) (by omega) (by simp <;> omega) (by simp [stN] <;> omega)) (hb2))

set_option maxRecDepth 100000 in
set_option maxHeartbeats 8000000 in
theorem rstep_0c (sz dg tr n d : Nat) (w : World) (I : Inv ⟨0, sz, dg, dg, tr⟩) (hn : n ≤ 255) (h13 : n ≠ 13) (h59 : n ≠ 59) (hd : digV n = some d) (h15 : dg ≠ 15) : Calls Tryd.prog 64 #[.agg #[.int .i64 0, .int .i64 (dg : Nat), .int .i64 (dg : Nat), .int .i64 (tr : Nat), .int .i64 (sz : Nat)], .int .u8 (n : Int)] w (RStep (stepM ⟨0, sz, dg, dg, tr⟩ n) w) := by
  have hb := I.big
  have hdg := I.digits
  simp only at hb hdg
  have hsm := I.small h15
  simp only at hsm
  have hd16 := digV_lt hd
  have hq : digI n = (d : Int) := digI_some hd
  have z13 : ((n : Int) == 13) = false := beqF (by omega)
  have z59 : ((n : Int) == 59) = false := beqF (by omega)
  have hH := hide (fun W => hex_any n W hn)
  rw [hq] at hH
  clear hq
  have hx := hide (show stepM ⟨0, sz, dg, dg, tr⟩ n = some (⟨0, sz * 16 + d, dg + 1, dg + 1, tr⟩, false) by simp [stepM, hd, h15])
  have d0 : decide ((0 : Int) ≤ (d : Int)) = true := by simp
  have d1 : decide ((dg : Int) + 1 ≤ 15) = true := by simp; omega
  clear h13 h59 h15 hd
  go_enter Tryd.func64, Tryd.ntmps64
  go_upto_region 14 with (go_at_call 75; refine (hH.out _).mono ?_; rintro e w' ⟨rfl, rfl⟩)
  obtain ⟨w1, hw1⟩ : ∃ w1 : World, w1 = ((w).alloc (.cells #[.int .i64 0, .int .i64 ((dg : Int) + 1), .int .i64 ((dg : Int) + 1), .int .i64 (tr : Nat), .int .i64 (16 * (sz : Int) + (d : Int))] 77)).alloc (.cells #[.int .i64 0, .int .i64 0, .int .i64 0, .int .i64 0, .int .i64 0] 77) := ⟨_, rfl⟩
  rw [← hw1]
  have hB1 : Below w.heap.size w w1 := by rw [hw1]; exact (((Below.refl _ _).alloc (Nat.le_refl _) _).alloc (by simp; try omega) _)
  have Z0 : Blk w1 (w.heap.size) 77 #[.int .i64 0, .int .i64 ((dg : Int) + 1), .int .i64 ((dg : Int) + 1), .int .i64 (tr : Nat), .int .i64 (16 * (sz : Int) + (d : Int))] := by rw [hw1]; exact ((Blk.new _ _ _).alloc _)
  have Z1 : Blk w1 (w.heap.size + 1) 77 #[.int .i64 0, .int .i64 0, .int .i64 0, .int .i64 0, .int .i64 0] := by rw [hw1]; exact (Blk.new' (by simp))
  clear hw1
  have c0 := Z0.cell
  have f0 := Z0.frozen
  have l0 := Z0.lt
  have c1 := Z1.cell
  have f1 := Z1.frozen
  have l1 := Z1.lt
  go_cut [5, 6] (fun b5 b6 wx => b5 = .bool false ∧ b6 = .bool true ∧ Blk wx (w.heap.size + 1) 77 #[.int .i64 0, .int .i64 ((dg : Int) + 1), .int .i64 ((dg : Int) + 1), .int .i64 (tr : Nat), .int .i64 (16 * (sz : Int) + (d : Int))] ∧ Below w.heap.size w wx)
  case first =>
    go_region
    all_goals (go_wp2_with fail; go_meet)
    all_goals with_reducible exact ⟨rfl, rfl, (five Z1).drew, bel5 hB1 (by omega)⟩
  case rest =>
    obtain ⟨rfl, rfl, Z2, hb2⟩ := hcut
    have c2 := Z2.cell
    go_wp2_with fail
    exact bodyPost_ret (v := .tuple #[.agg #[.int .i64 0, .int .i64 ((dg : Int) + 1), .int .i64 ((dg : Int) + 1), .int .i64 (tr : Nat), .int .i64 (16 * (sz : Int) + (d : Int))], .bool false, .bool true]) (by simp [results, Tryd.results64, go_sem, c2]) rfl (rpost_some hx (relC_mk (l := ((dg : Int) + 1)) (by omega) (by omega) (by simp <;> omega) (by simp [stN] <;> omega)) (hb2))

set_option maxRecDepth 100000 in
set_option maxHeartbeats 8000000 in
theorem rstep_0d (sz dg tr n d : Nat) (w : World) (I : Inv ⟨0, sz, dg, dg, tr⟩) (hn : n ≤ 255) (h13 : n ≠ 13) (h59 : n ≠ 59) (hd : digV n = some d) (h15 : dg = 15) : Calls Tryd.prog 64 #[.agg #[.int .i64 0, .int .i64 (dg : Nat), .int .i64 (dg : Nat), .int .i64 (tr : Nat), .int .i64 (sz : Nat)], .int .u8 (n : Int)] w (RStep (stepM ⟨0, sz, dg, dg, tr⟩ n) w) := by
  have hb := I.big
  have hdg := I.digits
  simp only at hb hdg
  have hd16 := digV_lt hd
  have hq : digI n = (d : Int) := digI_some hd
  have z13 : ((n : Int) == 13) = false := beqF (by omega)
  have z59 : ((n : Int) == 59) = false := beqF (by omega)
  have hH := hide (fun W => hex_any n W hn)
  rw [hq] at hH
  clear hq
  have hx := hide (show stepM ⟨0, sz, dg, dg, tr⟩ n = none by simp [stepM, hd, h15])
  have d0 : decide ((0 : Int) ≤ (d : Int)) = true := by simp
  have d1 : decide ((dg : Int) + 1 ≤ 15) = false := by simp; omega
  clear h13 h59 h15 hd
  go_enter Tryd.func64, Tryd.ntmps64
  go_upto_region 14 with (go_at_call 75; refine (hH.out _).mono ?_; rintro e w' ⟨rfl, rfl⟩)
  obtain ⟨w1, hw1⟩ : ∃ w1 : World, w1 = ((w).alloc (.cells #[.int .i64 0, .int .i64 ((dg : Int) + 1), .int .i64 ((dg : Int) + 1), .int .i64 (tr : Nat), .int .i64 (wrap64 (wrap64 (16 * (sz : Int)) + (d : Int)))] 77)).alloc (.cells #[.int .i64 0, .int .i64 0, .int .i64 0, .int .i64 0, .int .i64 0] 77) := ⟨_, rfl⟩
  rw [← hw1]
  have hB1 : Below w.heap.size w w1 := by rw [hw1]; exact (((Below.refl _ _).alloc (Nat.le_refl _) _).alloc (by simp; try omega) _)
  have Z0 : Blk w1 (w.heap.size) 77 #[.int .i64 0, .int .i64 ((dg : Int) + 1), .int .i64 ((dg : Int) + 1), .int .i64 (tr : Nat), .int .i64 (wrap64 (wrap64 (16 * (sz : Int)) + (d : Int)))] := by rw [hw1]; exact ((Blk.new _ _ _).alloc _)
  have Z1 : Blk w1 (w.heap.size + 1) 77 #[.int .i64 0, .int .i64 0, .int .i64 0, .int .i64 0, .int .i64 0] := by rw [hw1]; exact (Blk.new' (by simp))
  clear hw1
  have c0 := Z0.cell
  have f0 := Z0.frozen
  have l0 := Z0.lt
  have c1 := Z1.cell
  have f1 := Z1.frozen
  have l1 := Z1.lt
  go_cut [5, 6] (fun b5 b6 wx => b5 = .bool false ∧ b6 = .bool false ∧ Blk wx (w.heap.size + 1) 77 #[.int .i64 0, .int .i64 ((dg : Int) + 1), .int .i64 ((dg : Int) + 1), .int .i64 (tr : Nat), .int .i64 (wrap64 (wrap64 (16 * (sz : Int)) + (d : Int)))] ∧ Below w.heap.size w wx)
  case first =>
    go_region
    all_goals (go_wp2_with fail; go_meet)
    all_goals with_reducible exact ⟨rfl, rfl, (five Z1).drew, bel5 hB1 (by omega)⟩
  case rest =>
    obtain ⟨rfl, rfl, Z2, hb2⟩ := hcut
    have c2 := Z2.cell
    go_wp2_with fail
    exact bodyPost_ret (v := .tuple #[.agg #[.int .i64 0, .int .i64 ((dg : Int) + 1), .int .i64 ((dg : Int) + 1), .int .i64 (tr : Nat), .int .i64 (wrap64 (wrap64 (16 * (sz : Int)) + (d : Int)))], .bool false, .bool false]) (by simp [results, Tryd.results64, go_sem, c2]) rfl (rpost_none hx (hb2))

set_option maxRecDepth 100000 in
set_option maxHeartbeats 8000000 in
theorem rstep_0e (sz dg tr n : Nat) (w : World) (I : Inv ⟨0, sz, dg, dg, tr⟩) (hn : n ≤ 255) (h13 : n ≠ 13) (h59 : n ≠ 59) (hd : digV n = none) : Calls Tryd.prog 64 #[.agg #[.int .i64 0, .int .i64 (dg : Nat), .int .i64 (dg : Nat), .int .i64 (tr : Nat), .int .i64 (sz : Nat)], .int .u8 (n : Int)] w (RStep (stepM ⟨0, sz, dg, dg, tr⟩ n) w) := by
  have hb := I.big
  have hdg := I.digits
  simp only at hb hdg
  have hq : digI n = -1 := digI_none hd
  have z13 : ((n : Int) == 13) = false := beqF (by omega)
  have z59 : ((n : Int) == 59) = false := beqF (by omega)
  have hH := hide (fun W => hex_any n W hn)
  rw [hq] at hH
  clear hq
  have hx := hide (show stepM ⟨0, sz, dg, dg, tr⟩ n = none by simp [stepM, hd, h13, h59])
  clear h13 h59 hd
  go_enter Tryd.func64, Tryd.ntmps64
  go_upto_region 14 with (go_at_call 75; refine (hH.out _).mono ?_; rintro e w' ⟨rfl, rfl⟩)
  obtain ⟨w1, hw1⟩ : ∃ w1 : World, w1 = ((w).alloc (.cells #[.int .i64 0, .int .i64 ((dg : Int) + 1), .int .i64 ((dg : Int) + 1), .int .i64 (tr : Nat), .int .i64 (wrap64 (wrap64 (16 * (sz : Int)) + (-1)))] 77)).alloc (.cells #[.int .i64 0, .int .i64 0, .int .i64 0, .int .i64 0, .int .i64 0] 77) := ⟨_, rfl⟩
  rw [← hw1]
  have hB1 : Below w.heap.size w w1 := by rw [hw1]; exact (((Below.refl _ _).alloc (Nat.le_refl _) _).alloc (by simp; try omega) _)
  have Z0 : Blk w1 (w.heap.size) 77 #[.int .i64 0, .int .i64 ((dg : Int) + 1), .int .i64 ((dg : Int) + 1), .int .i64 (tr : Nat), .int .i64 (wrap64 (wrap64 (16 * (sz : Int)) + (-1)))] := by rw [hw1]; exact ((Blk.new _ _ _).alloc _)
  have Z1 : Blk w1 (w.heap.size + 1) 77 #[.int .i64 0, .int .i64 0, .int .i64 0, .int .i64 0, .int .i64 0] := by rw [hw1]; exact (Blk.new' (by simp))
  clear hw1
  have c0 := Z0.cell
  have f0 := Z0.frozen
  have l0 := Z0.lt
  have c1 := Z1.cell
  have f1 := Z1.frozen
  have l1 := Z1.lt
  go_cut [5, 6] (fun b5 b6 wx => b5 = .bool false ∧ b6 = .bool false ∧ Blk wx (w.heap.size + 1) 77 #[.int .i64 0, .int .i64 ((dg : Int) + 1), .int .i64 ((dg : Int) + 1), .int .i64 (tr : Nat), .int .i64 (wrap64 (wrap64 (16 * (sz : Int)) + (-1)))] ∧ Below w.heap.size w wx)
  case first =>
    go_region
    all_goals (go_wp2_with fail; go_meet)
    all_goals with_reducible exact ⟨rfl, rfl, (five Z1).drew, bel5 hB1 (by omega)⟩
  case rest =>
    obtain ⟨rfl, rfl, Z2, hb2⟩ := hcut
    have c2 := Z2.cell
    go_wp2_with fail
    exact bodyPost_ret (v := .tuple #[.agg #[.int .i64 0, .int .i64 ((dg : Int) + 1), .int .i64 ((dg : Int) + 1), .int .i64 (tr : Nat), .int .i64 (wrap64 (wrap64 (16 * (sz : Int)) + (-1)))], .bool false, .bool false]) (by simp [results, Tryd.results64, go_sem, c2]) rfl (rpost_none hx (hb2))

set_option maxRecDepth 100000 in
set_option maxHeartbeats 8000000 in
theorem rstep_0f (sz dg tr : Nat) (w : World) (I : Inv ⟨0, sz, dg, dg, tr⟩) (h0 : dg = 0) : Calls Tryd.prog 64 #[.agg #[.int .i64 0, .int .i64 (dg : Nat), .int .i64 (dg : Nat), .int .i64 (tr : Nat), .int .i64 (sz : Nat)], .int .u8 59] w (RStep (stepM ⟨0, sz, dg, dg, tr⟩ 59) w) := by
  have hb := I.big
  have hdg := I.digits
  simp only at hb hdg
  have hsm := I.small (by simp; omega)
  simp only at hsm
  have hH := hide (fun W => hex_any 59 W (by omega))
  rw [show digI 59 = -1 from by decide] at hH
  have hx := hide (show stepM ⟨0, sz, dg, dg, tr⟩ 59 = none by simp [stepM, digV, h0])
  have dd : decide (0 < dg) = false := by simp; omega
  clear h0
  go_enter Tryd.func64, Tryd.ntmps64
  go_upto_region 14 with (go_at_call 75; refine (hH.out _).mono ?_; rintro e w' ⟨rfl, rfl⟩)
  obtain ⟨w1, hw1⟩ : ∃ w1 : World, w1 = ((w).alloc (.cells #[.int .i64 0, .int .i64 ((dg : Int) + 1), .int .i64 ((dg : Int) + 1), .int .i64 (tr : Nat), .int .i64 (16 * (sz : Int) + (-1))] 77)).alloc (.cells #[.int .i64 0, .int .i64 0, .int .i64 0, .int .i64 0, .int .i64 0] 77) := ⟨_, rfl⟩
  rw [← hw1]
  have hB1 : Below w.heap.size w w1 := by rw [hw1]; exact (((Below.refl _ _).alloc (Nat.le_refl _) _).alloc (by simp; try omega) _)
  have Z0 : Blk w1 (w.heap.size) 77 #[.int .i64 0, .int .i64 ((dg : Int) + 1), .int .i64 ((dg : Int) + 1), .int .i64 (tr : Nat), .int .i64 (16 * (sz : Int) + (-1))] := by rw [hw1]; exact ((Blk.new _ _ _).alloc _)
  have Z1 : Blk w1 (w.heap.size + 1) 77 #[.int .i64 0, .int .i64 0, .int .i64 0, .int .i64 0, .int .i64 0] := by rw [hw1]; exact (Blk.new' (by simp))
  clear hw1
  have c0 := Z0.cell
  have f0 := Z0.frozen
  have l0 := Z0.lt
  have c1 := Z1.cell
  have f1 := Z1.frozen
  have l1 := Z1.lt
  go_cut [5, 6] (fun b5 b6 wx => b5 = .bool false ∧ b6 = .bool false ∧ Blk wx (w.heap.size + 1) 77 #[.int .i64 0, .int .i64 ((dg : Int) + 1), .int .i64 ((dg : Int) + 1), .int .i64 (tr : Nat), .int .i64 (16 * (sz : Int) + (-1))] ∧ Below w.heap.size w wx)
  case first =>
    go_region
    all_goals (go_wp2_with fail; go_meet)
    all_goals with_reducible exact ⟨rfl, rfl, (five Z1).drew, bel5 hB1 (by omega)⟩
  case rest =>
    obtain ⟨rfl, rfl, Z2, hb2⟩ := hcut
    have c2 := Z2.cell
    go_wp2_with fail
    exact bodyPost_ret (v := .tuple #[.agg #[.int .i64 0, .int .i64 ((dg : Int) + 1), .int .i64 ((dg : Int) + 1), .int .i64 (tr : Nat), .int .i64 (16 * (sz : Int) + (-1))], .bool false, .bool false]) (by simp [results, Tryd.results64, go_sem, c2]) rfl (rpost_none hx (hb2))

set_option maxRecDepth 100000 in
set_option maxHeartbeats 8000000 in
theorem rstep_6b (sz dg lg tr n : Nat) (w : World) (I : Inv ⟨6, sz, dg, lg, tr⟩) (hlz : lg ≠ 0) (hn : n ≤ 255) : Calls Tryd.prog 64 #[.agg #[.int .i64 7, .int .i64 (dg : Nat), .int .i64 (lg : Nat), .int .i64 (tr : Nat), .int .i64 (sz : Nat)], .int .u8 (n : Int)] w (RStep (stepM ⟨6, sz, dg, lg, tr⟩ n) w) := by
  have ht := I.trailers
  simp only at ht
  have hl := I.long
  simp only at hl
  by_cases h13 : n = 13
  · subst h13
    have hx := hide (show stepM ⟨6, sz, dg, lg, tr⟩ 13 = some (⟨7, sz, dg, lg, tr⟩, false) by simp [stepM, hlz])
    go_enter Tryd.func64, Tryd.ntmps64
    go_wp2_with fail
    exact bodyPost_ret (v := .tuple #[.agg #[.int .i64 8, .int .i64 (dg : Nat), .int .i64 (lg : Nat), .int .i64 (tr : Nat), .int .i64 (sz : Nat)], .bool false, .bool true]) (by simp [results, Tryd.results64, go_sem]) rfl (rpost_some hx (relC_mk (l := (lg : Int)) (by omega) (by omega) (by simp <;> omega) (by simp [stN] <;> omega)) ((((Below.refl _ _).alloc (Nat.le_refl _) _).alloc (by simp) _)))
  · cases hp : putB lg n
    · have hx := hide (show stepM ⟨6, sz, dg, lg, tr⟩ n = none by simp only [stepM]; rw [if_neg h13, if_pos (by rw [if_neg hlz]; exact ht), if_neg hlz]; unfold putM; simp [putB] at hp; first | (simp [hp]; done) | simpa using hp)
      have hp' := hide hp
      clear hp
      have z13 : ((n : Int) == 13) = false := beqF (by omega)
      clear h13
      go_enter Tryd.func64, Tryd.ntmps64
      go_wp2_with fail
      obtain ⟨w1, hw1⟩ : ∃ w1 : World, w1 = ((w).alloc (.cells #[.int .i64 7, .int .i64 (dg : Nat), .int .i64 (lg : Nat), .int .i64 (tr : Nat), .int .i64 (sz : Nat)] 77)).alloc (.cells #[.int .i64 0, .int .i64 0, .int .i64 0, .int .i64 0, .int .i64 0] 77) := ⟨_, rfl⟩
      rw [← hw1]
      have hB1 : Below w.heap.size w w1 := by rw [hw1]; exact (((Below.refl _ _).alloc (Nat.le_refl _) _).alloc (by simp; try omega) _)
      have Z0 : Blk w1 (w.heap.size) 77 #[.int .i64 7, .int .i64 (dg : Nat), .int .i64 (lg : Nat), .int .i64 (tr : Nat), .int .i64 (sz : Nat)] := by rw [hw1]; exact ((Blk.new _ _ _).alloc _)
      have Z1 : Blk w1 (w.heap.size + 1) 77 #[.int .i64 0, .int .i64 0, .int .i64 0, .int .i64 0, .int .i64 0] := by rw [hw1]; exact (Blk.new' (by simp))
      clear hw1
      have c0 := Z0.cell
      have f0 := Z0.frozen
      have l0 := Z0.lt
      have c1 := Z1.cell
      have f1 := Z1.frozen
      have l1 := Z1.lt
      refine (rtext_any 7 dg lg tr sz n _ hn (by omega) (by omega)).mono ?_
      rintro e w2 ⟨rfl, hb2⟩
      have hq := putB_int hp'.out
      rw [hq]
      clear hq
      have hB2 := hB1.trans (hb2.mono hB1.size)
      replace Z0 := Z0.below hb2 Z0.lt
      replace Z1 := Z1.below hb2 Z1.lt
      clear c0 f0 l0 c1 f1 l1 hb2
      have c0 := Z0.cell
      have f0 := Z0.frozen
      have l0 := Z0.lt
      have c1 := Z1.cell
      have f1 := Z1.frozen
      have l1 := Z1.lt
      go_wp2_with fail
      exact bodyPost_ret (v := .tuple #[.agg #[.int .i64 7, .int .i64 (dg : Nat), .int .i64 ((lg : Int) + 1), .int .i64 (tr : Nat), .int .i64 (sz : Nat)], .bool false, .bool false]) (by simp [results, Tryd.results64, go_sem, c0, c1, f0, f1, l0, l1]) rfl (rpost_none hx (by (repeat (first | with_reducible exact hB2 | with_reducible refine below_set ?_ (by omega) _ | with_reducible refine Below.alloc ?_ (by simp; omega) _))))
    · have hx := hide (show stepM ⟨6, sz, dg, lg, tr⟩ n = some (⟨6, sz, dg, lg + 1, tr⟩, false) by simp only [stepM]; rw [if_neg h13, if_pos (by rw [if_neg hlz]; exact ht), if_neg hlz]; unfold putM; simp [putB] at hp; first | (simp [hp]; done) | simpa using hp)
      have hp' := hide hp
      clear hp
      have hl2 : lg + 1 ≤ 200 := by
        have := hp'.out; unfold putB at this; simp at this; omega
      have z13 : ((n : Int) == 13) = false := beqF (by omega)
      clear h13
      go_enter Tryd.func64, Tryd.ntmps64
      go_wp2_with fail
      obtain ⟨w1, hw1⟩ : ∃ w1 : World, w1 = ((w).alloc (.cells #[.int .i64 7, .int .i64 (dg : Nat), .int .i64 (lg : Nat), .int .i64 (tr : Nat), .int .i64 (sz : Nat)] 77)).alloc (.cells #[.int .i64 0, .int .i64 0, .int .i64 0, .int .i64 0, .int .i64 0] 77) := ⟨_, rfl⟩
      rw [← hw1]
      have hB1 : Below w.heap.size w w1 := by rw [hw1]; exact (((Below.refl _ _).alloc (Nat.le_refl _) _).alloc (by simp; try omega) _)
      have Z0 : Blk w1 (w.heap.size) 77 #[.int .i64 7, .int .i64 (dg : Nat), .int .i64 (lg : Nat), .int .i64 (tr : Nat), .int .i64 (sz : Nat)] := by rw [hw1]; exact ((Blk.new _ _ _).alloc _)
      have Z1 : Blk w1 (w.heap.size + 1) 77 #[.int .i64 0, .int .i64 0, .int .i64 0, .int .i64 0, .int .i64 0] := by rw [hw1]; exact (Blk.new' (by simp))
      clear hw1
      have c0 := Z0.cell
      have f0 := Z0.frozen
      have l0 := Z0.lt
      have c1 := Z1.cell
      have f1 := Z1.frozen
      have l1 := Z1.lt
      refine (rtext_any 7 dg lg tr sz n _ hn (by omega) (by omega)).mono ?_
      rintro e w2 ⟨rfl, hb2⟩
      have hq := putB_int hp'.out
      rw [hq]
      clear hq
      have hB2 := hB1.trans (hb2.mono hB1.size)
      replace Z0 := Z0.below hb2 Z0.lt
      replace Z1 := Z1.below hb2 Z1.lt
      clear c0 f0 l0 c1 f1 l1 hb2
      have c0 := Z0.cell
      have f0 := Z0.frozen
      have l0 := Z0.lt
      have c1 := Z1.cell
      have f1 := Z1.frozen
      have l1 := Z1.lt
      go_wp2_with fail
      exact bodyPost_ret (v := .tuple #[.agg #[.int .i64 7, .int .i64 (dg : Nat), .int .i64 ((lg : Int) + 1), .int .i64 (tr : Nat), .int .i64 (sz : Nat)], .bool false, .bool true]) (by simp [results, Tryd.results64, go_sem, c0, c1, f0, f1, l0, l1]) rfl (rpost_some hx (relC_mk (l := ((lg : Int) + 1)) (by omega) (by omega) (by simp <;> omega) (by simp [stN] <;> omega)) (by (repeat (first | with_reducible exact hB2 | with_reducible refine below_set ?_ (by omega) _ | with_reducible refine Below.alloc ?_ (by simp; omega) _))))

end Go.Proofs.YtiigkacmahecaaaDoor
