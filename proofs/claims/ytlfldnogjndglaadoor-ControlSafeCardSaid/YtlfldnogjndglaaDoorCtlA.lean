/-
  A version's ticks as a rule: the program's functions.
-/
import Derived.Test.YtlfldnogjndglaaDoorWList
import Derived.Test.YtlfldnogjndglaaDoorGrU
import Derived.Deep.DeepCutAuto
import Derived.Deep.RegionHeld3
import Derived.Test.YtlfldnogjndglaaDoorOwnS
namespace Go.Proofs.YtlfldnogjndglaaDoor
open Go.RowKit
set_option linter.unusedVariables false
set_option linter.unusedSimpArgs false

def IntIs (n : Int) (w : World) (e : Ending) (w' : World) : Prop := e = .returned (.int .i64 n) ∧ w = w'
def withinV (n : Int) : Int := min (max n 0) 1099511627776

set_option maxRecDepth 100000 in
set_option maxHeartbeats 1000000 in
theorem within_any (n : Int) (w : World) : Calls Tryd.prog 13 #[.int .i64 n] w (IntIs (withinV n) w) := by
  go_enter Tryd.func13, Tryd.ntmps13
  go_wp2
  go_ret
  exact ⟨by simp [withinV], rfl⟩

def swrV (n : Int) : Int := if withinV n = 0 then -1 else withinV n
/-- The rule of a version's ticks. -/
def ofC (fr wh er : Int) (kp : Bool) : Array Value := #[.int .i64 (-1), .int .i64 (withinV fr), .int .i64 (swrV wh), .int .i64 (swrV er), .bool (!kp), .bool false, .bool false]
def AggIs (cs : Array Value) (w : World) (e : Ending) (w' : World) : Prop := e = .returned (.agg cs) ∧ Below w.heap.size w w'

set_option maxRecDepth 100000 in
set_option maxHeartbeats 4000000 in
theorem of_any (mt : ByteArray) (mk : Bool) (md ln hv fr wh er : Int) (kv : Value) (tn : ByteArray) (kp : Bool) (w : World) : Calls Tryd.prog 10 #[.agg #[.string mt, .bool mk, .int .i64 md, .int .i64 ln, .int .i64 hv, .int .i64 fr, .int .i64 wh, .int .i64 er, kv, .string tn, .bool kp]] w (AggIs (ofC fr wh er kp) w) := by
  go_enter Tryd.func10, Tryd.ntmps10
  go_upto_region 1 with fail
  obtain ⟨w1, hw1⟩ : ∃ w1 : World, w1 = ((w).alloc (.cells #[.string mt, .bool mk, .int .i64 md, .int .i64 ln, .int .i64 hv, .int .i64 fr, .int .i64 wh, .int .i64 er, kv, .string tn, .bool kp] 31)).alloc (.cells #[.int .i64 0, .int .i64 0, .int .i64 0, .int .i64 0, .bool false, .bool false, .bool false] 26) := ⟨_, rfl⟩
  rw [← hw1]
  have hB1 : Below w.heap.size w w1 := by rw [hw1]; exact (((Below.refl _ _).alloc (Nat.le_refl _) _).alloc (by simp; try omega) _)
  have T : Blk w1 (w.heap.size) 31 #[.string mt, .bool mk, .int .i64 md, .int .i64 ln, .int .i64 hv, .int .i64 fr, .int .i64 wh, .int .i64 er, kv, .string tn, .bool kp] := by rw [hw1]; exact ((Blk.new _ _ _).alloc _)
  have R : Blk w1 (w.heap.size + 1) 26 #[.int .i64 0, .int .i64 0, .int .i64 0, .int .i64 0, .bool false, .bool false, .bool false] := by rw [hw1]; exact (Blk.new' (by simp))
  clear hw1
  have cT := T.cell
  have cR := R.cell
  have SMK := hide (show ∀ W : World, Below w1.heap.size w1 W → (fun W => Below w1.heap.size w1 W ∧ W.cell? ⟨w.heap.size, 5, none⟩ = some (.int .i64 fr) ∧ W.cell? ⟨w.heap.size, 6, none⟩ = some (.int .i64 wh) ∧ W.cell? ⟨w.heap.size, 7, none⟩ = some (.int .i64 er) ∧ W.cell? ⟨w.heap.size, 10, none⟩ = some (.bool kp)) W from fun W h => ⟨h, (T.below h T.lt).cell 5, (T.below h T.lt).cell 6, (T.below h T.lt).cell 7, (T.below h T.lt).cell 10⟩)
  go_upto_region 1 with fail
  go_cut [3] (fun p wx => ∃ g : Nat, p = .pointer (some ⟨g, 0, none⟩) ∧ w1.heap.size ≤ g ∧ Blk wx g 26 #[.int .i64 (-1), .int .i64 (withinV fr), .int .i64 (withinV wh), .int .i64 (withinV er), .bool (!kp), .bool false, .bool false] ∧ Below w1.heap.size w1 wx)
  case first =>
    clear cT cR
    go_region_held3 (fun W => Below w1.heap.size w1 W ∧ W.cell? ⟨w.heap.size, 5, none⟩ = some (.int .i64 fr) ∧ W.cell? ⟨w.heap.size, 6, none⟩ = some (.int .i64 wh) ∧ W.cell? ⟨w.heap.size, 7, none⟩ = some (.int .i64 er) ∧ W.cell? ⟨w.heap.size, 10, none⟩ = some (.bool kp)) (first | exact SMK.out _ (Below.drew (Below.refl _ _)) | exact SMK.out _ (Below.alloc (Below.drew (Below.refl _ _)) (Nat.le_refl _) _) | exact SMK.out _ (Below.drew (Below.alloc (Below.refl _ _) (Nat.le_refl _) _)))
      (first | (go_at_call 13; refine (within_any _ _).mono ?_; rintro e w8 ⟨rfl, rfl⟩))
    all_goals (go_wp2_with fail; go_meet)
    all_goals exact ⟨w1.heap.size, rfl, Nat.le_refl _, (Blk.new _ _ _).drew, ((Below.refl _ _).alloc (Nat.le_refl _) _).drew⟩
  case rest =>
    obtain ⟨g, rfl, hg, G, hbc⟩ := hcut
    have hB := hB1.trans (hbc.mono hB1.size)
    have R2 := R.below hbc R.lt
    have hgr : ¬ g = w.heap.size + 1 := by have := R.lt; omega
    have hgr' : ¬ w.heap.size + 1 = g := fun h => hgr h.symm
    have hgw : w.heap.size ≤ g := by have := hB1.size; omega
    clear T R cT cR hbc SMK hB1
    have cG := G.cell
    have fG := G.frozen
    have cR2 : ∀ i, wc.cell? ⟨w.heap.size + 1, i, none⟩ = (#[.int .i64 0, .int .i64 0, .int .i64 0, .int .i64 0, .bool false, .bool false, .bool false] : Array Value)[i]? := fun i => R2.cell i
    have fR2 : ∀ i, wc.frozen? ⟨w.heap.size + 1, i, none⟩ = false := fun i => R2.frozen i
    by_cases q1 : withinV wh = 0
    · have d1 : (withinV wh == 0) = true := by simpa using q1
      by_cases q2 : withinV er = 0
      · have d2 : (withinV er == 0) = true := by simpa using q2
        go_wp2
        exact bodyPost_ret (v := .agg (ofC fr wh er kp)) (by simp [results, Tryd.results10, go_sem, swrV, ofC, q1, q2, cR2, hgr']) rfl ⟨rfl, by (repeat (refine below_set ?_ (by first | exact hgw | exact Nat.le_add_right _ _) _)); exact hB⟩
      · have d2 : (withinV er == 0) = false := by simpa using q2
        go_wp2
        exact bodyPost_ret (v := .agg (ofC fr wh er kp)) (by simp [results, Tryd.results10, go_sem, swrV, ofC, q1, q2, cR2, hgr']) rfl ⟨rfl, by (repeat (refine below_set ?_ (by first | exact hgw | exact Nat.le_add_right _ _) _)); exact hB⟩
    · have d1 : (withinV wh == 0) = false := by simpa using q1
      by_cases q2 : withinV er = 0
      · have d2 : (withinV er == 0) = true := by simpa using q2
        go_wp2
        exact bodyPost_ret (v := .agg (ofC fr wh er kp)) (by simp [results, Tryd.results10, go_sem, swrV, ofC, q1, q2, cR2, hgr']) rfl ⟨rfl, by (repeat (refine below_set ?_ (by first | exact hgw | exact Nat.le_add_right _ _) _)); exact hB⟩
      · have d2 : (withinV er == 0) = false := by simpa using q2
        go_wp2
        exact bodyPost_ret (v := .agg (ofC fr wh er kp)) (by simp [results, Tryd.results10, go_sem, swrV, ofC, q1, q2, cR2, hgr']) rfl ⟨rfl, by (repeat (refine below_set ?_ (by first | exact hgw | exact Nat.le_add_right _ _) _)); exact hB⟩

end Go.Proofs.YtlfldnogjndglaaDoor
