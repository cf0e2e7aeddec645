/-
  What two spans both have.
-/
import Derived.Test.YtfcbmajogmojbaaDoorRngC
namespace Go.Proofs.YtfcbmajogmojbaaDoor
open Go.RowKit
set_option linter.unusedVariables false
set_option linter.unusedSimpArgs false

/-- What both spans have. -/
def meetL (x y : Sp) : Option Sp := if rightB x.1 x.2 = true ∧ rightB y.1 y.2 = true ∧ max x.1 y.1 < min x.2 y.2 then some (max x.1 y.1, min x.2 y.2) else none
def MeetOk (r : Option Sp) (w : World) (e : Ending) (w' : World) : Prop := e = .returned (.tuple #[.agg #[.int .i64 (r.getD (0, 0)).1, .int .i64 (r.getD (0, 0)).2], .bool r.isSome]) ∧ Below w.heap.size w w'

set_option maxRecDepth 100000 in
set_option maxHeartbeats 8000000 in
theorem smeet_any (a b c d : Int) (w : World) : Calls Tryd.prog 36 #[.agg #[.int .i64 a, .int .i64 b], .agg #[.int .i64 c, .int .i64 d]] w (MeetOk (meetL (a, b) (c, d)) w) := by
  cases hr : rightB a b
  · have HX := hide (show meetL (a, b) (c, d) = none by unfold meetL; rw [if_neg (by simp [hr])])
    go_enter Tryd.func36, Tryd.ntmps36
    go_upto_region 1 with fail
    obtain ⟨w1, hw1⟩ : ∃ w1 : World, w1 = (((w).alloc (.cells #[.int .i64 a, .int .i64 b] 31)).alloc (.cells #[.int .i64 c, .int .i64 d] 31)).alloc (.cells #[.int .i64 0, .int .i64 0] 31) := ⟨_, rfl⟩
    rw [← hw1]
    have hB1 : Below w.heap.size w w1 := by rw [hw1]; exact ((((Below.refl _ _).alloc (Nat.le_refl _) _).alloc (by simp; try omega) _).alloc (by simp; try omega) _)
    have X : Blk w1 (w.heap.size) 31 #[.int .i64 a, .int .i64 b] := by rw [hw1]; exact (((Blk.new _ _ _).alloc _).alloc _)
    have Y : Blk w1 (w.heap.size + 1) 31 #[.int .i64 c, .int .i64 d] := by rw [hw1]; exact ((Blk.new' (by simp)).alloc _)
    have Z : Blk w1 (w.heap.size + 2) 31 #[.int .i64 0, .int .i64 0] := by rw [hw1]; exact (Blk.new' (by simp))
    clear hw1
    have cX := X.cell
    have cY := Y.cell
    have cZ := Z.cell
    go_wp2_with fail
    refine (sright_any a b w1).mono ?_
    rw [hr]
    rintro e w2 ⟨rfl, hb2⟩
    have hB2 := hB1.trans (hb2.mono hB1.size)
    replace X := X.below hb2 X.lt
    replace Y := Y.below hb2 Y.lt
    replace Z := Z.below hb2 Z.lt
    clear cX cY cZ hb2
    have cX := X.cell
    have cY := Y.cell
    have cZ := Z.cell
    have fZ := Z.frozen
    have lZ := Z.lt
    have hz2 := hB2.size
    have cZ2 : ∀ i, w2.cell? ⟨w.heap.size + 1 + 1, i, none⟩ = #[Value.int .i64 0, Value.int .i64 0][i]? := cZ
    have fZ2 : ∀ i, w2.frozen? ⟨w.heap.size + 1 + 1, i, none⟩ = false := fZ
    have lZ2 : w.heap.size + 1 + 1 < w2.heap.size := lZ
    go_wp2_with fail
    refine bodyPost_ret (v := .tuple #[.agg #[.int .i64 0, .int .i64 0], .bool false]) (by simp [results, Tryd.results36, go_sem, cZ2, fZ2, lZ2]) rfl ?_
    exact ⟨by rw [HX.out]; rfl, by first | exact below_set (below_set hB2 (by omega) _) (by omega) _ | exact (below_set (below_set hB2 (by omega) _) (by omega) _).alloc (by simp; omega) _⟩
  · cases hs : rightB c d
    · have HX := hide (show meetL (a, b) (c, d) = none by unfold meetL; rw [if_neg (by simp [hs])])
      go_enter Tryd.func36, Tryd.ntmps36
      go_upto_region 1 with fail
      obtain ⟨w1, hw1⟩ : ∃ w1 : World, w1 = (((w).alloc (.cells #[.int .i64 a, .int .i64 b] 31)).alloc (.cells #[.int .i64 c, .int .i64 d] 31)).alloc (.cells #[.int .i64 0, .int .i64 0] 31) := ⟨_, rfl⟩
      rw [← hw1]
      have hB1 : Below w.heap.size w w1 := by rw [hw1]; exact ((((Below.refl _ _).alloc (Nat.le_refl _) _).alloc (by simp; try omega) _).alloc (by simp; try omega) _)
      have X : Blk w1 (w.heap.size) 31 #[.int .i64 a, .int .i64 b] := by rw [hw1]; exact (((Blk.new _ _ _).alloc _).alloc _)
      have Y : Blk w1 (w.heap.size + 1) 31 #[.int .i64 c, .int .i64 d] := by rw [hw1]; exact ((Blk.new' (by simp)).alloc _)
      have Z : Blk w1 (w.heap.size + 2) 31 #[.int .i64 0, .int .i64 0] := by rw [hw1]; exact (Blk.new' (by simp))
      clear hw1
      have cX := X.cell
      have cY := Y.cell
      have cZ := Z.cell
      go_wp2_with fail
      refine (sright_any a b w1).mono ?_
      rw [hr]
      rintro e w2 ⟨rfl, hb2⟩
      have hB2 := hB1.trans (hb2.mono hB1.size)
      replace X := X.below hb2 X.lt
      replace Y := Y.below hb2 Y.lt
      replace Z := Z.below hb2 Z.lt
      clear cX cY cZ hb2
      have cX := X.cell
      have cY := Y.cell
      have cZ := Z.cell
      have fZ := Z.frozen
      have lZ := Z.lt
      have hz2 := hB2.size
      have cZ2 : ∀ i, w2.cell? ⟨w.heap.size + 1 + 1, i, none⟩ = #[Value.int .i64 0, Value.int .i64 0][i]? := cZ
      have fZ2 : ∀ i, w2.frozen? ⟨w.heap.size + 1 + 1, i, none⟩ = false := fZ
      have lZ2 : w.heap.size + 1 + 1 < w2.heap.size := lZ
      go_wp2_with fail
      refine (sright_any c d w2).mono ?_
      rw [hs]
      rintro e w3 ⟨rfl, hb3⟩
      have hB3 := hB2.trans (hb3.mono hB2.size)
      replace X := X.below hb3 X.lt
      replace Y := Y.below hb3 Y.lt
      replace Z := Z.below hb3 Z.lt
      clear cX cY cZ hb3
      have cX := X.cell
      have cY := Y.cell
      have cZ := Z.cell
      have fZ := Z.frozen
      have lZ := Z.lt
      have hz3 := hB3.size
      have cZ2 : ∀ i, w3.cell? ⟨w.heap.size + 1 + 1, i, none⟩ = #[Value.int .i64 0, Value.int .i64 0][i]? := cZ
      have fZ2 : ∀ i, w3.frozen? ⟨w.heap.size + 1 + 1, i, none⟩ = false := fZ
      have lZ2 : w.heap.size + 1 + 1 < w3.heap.size := lZ
      go_wp2_with fail
      refine bodyPost_ret (v := .tuple #[.agg #[.int .i64 0, .int .i64 0], .bool false]) (by simp [results, Tryd.results36, go_sem, cZ2, fZ2, lZ2]) rfl ?_
      exact ⟨by rw [HX.out]; rfl, by first | exact below_set (below_set hB3 (by omega) _) (by omega) _ | exact (below_set (below_set hB3 (by omega) _) (by omega) _).alloc (by simp; omega) _⟩
    · by_cases h1 : a < c
      · by_cases h2 : d < b
        · by_cases h3 : c < d
          · have HX := hide (show meetL (a, b) (c, d) = some (c, d) by unfold meetL; simp only; rw [show max a c = c by omega, show min b d = d by omega, if_pos ⟨hr, hs, h3⟩])
            have d3 : decide (c ≥ d) = false := decide_eq_false (by omega)
            clear h3
            go_enter Tryd.func36, Tryd.ntmps36
            go_upto_region 1 with fail
            obtain ⟨w1, hw1⟩ : ∃ w1 : World, w1 = (((w).alloc (.cells #[.int .i64 a, .int .i64 b] 31)).alloc (.cells #[.int .i64 c, .int .i64 d] 31)).alloc (.cells #[.int .i64 0, .int .i64 0] 31) := ⟨_, rfl⟩
            rw [← hw1]
            have hB1 : Below w.heap.size w w1 := by rw [hw1]; exact ((((Below.refl _ _).alloc (Nat.le_refl _) _).alloc (by simp; try omega) _).alloc (by simp; try omega) _)
            have X : Blk w1 (w.heap.size) 31 #[.int .i64 a, .int .i64 b] := by rw [hw1]; exact (((Blk.new _ _ _).alloc _).alloc _)
            have Y : Blk w1 (w.heap.size + 1) 31 #[.int .i64 c, .int .i64 d] := by rw [hw1]; exact ((Blk.new' (by simp)).alloc _)
            have Z : Blk w1 (w.heap.size + 2) 31 #[.int .i64 0, .int .i64 0] := by rw [hw1]; exact (Blk.new' (by simp))
            clear hw1
            have cX := X.cell
            have cY := Y.cell
            have cZ := Z.cell
            go_wp2_with fail
            refine (sright_any a b w1).mono ?_
            rw [hr]
            rintro e w2 ⟨rfl, hb2⟩
            have hB2 := hB1.trans (hb2.mono hB1.size)
            replace X := X.below hb2 X.lt
            replace Y := Y.below hb2 Y.lt
            replace Z := Z.below hb2 Z.lt
            clear cX cY cZ hb2
            have cX := X.cell
            have cY := Y.cell
            have cZ := Z.cell
            have fZ := Z.frozen
            have lZ := Z.lt
            have hz2 := hB2.size
            have cZ2 : ∀ i, w2.cell? ⟨w.heap.size + 1 + 1, i, none⟩ = #[Value.int .i64 0, Value.int .i64 0][i]? := cZ
            have fZ2 : ∀ i, w2.frozen? ⟨w.heap.size + 1 + 1, i, none⟩ = false := fZ
            have lZ2 : w.heap.size + 1 + 1 < w2.heap.size := lZ
            go_wp2_with fail
            refine (sright_any c d w2).mono ?_
            rw [hs]
            rintro e w3 ⟨rfl, hb3⟩
            have hB3 := hB2.trans (hb3.mono hB2.size)
            replace X := X.below hb3 X.lt
            replace Y := Y.below hb3 Y.lt
            replace Z := Z.below hb3 Z.lt
            clear cX cY cZ hb3
            have cX := X.cell
            have cY := Y.cell
            have cZ := Z.cell
            have fZ := Z.frozen
            have lZ := Z.lt
            have hz3 := hB3.size
            have cZ2 : ∀ i, w3.cell? ⟨w.heap.size + 1 + 1, i, none⟩ = #[Value.int .i64 0, Value.int .i64 0][i]? := cZ
            have fZ2 : ∀ i, w3.frozen? ⟨w.heap.size + 1 + 1, i, none⟩ = false := fZ
            have lZ2 : w.heap.size + 1 + 1 < w3.heap.size := lZ
            go_wp2_with fail
            refine bodyPost_ret (v := .tuple #[.agg #[.int .i64 c, .int .i64 d], .bool true]) (by simp [results, Tryd.results36, go_sem, cZ2, fZ2, lZ2]) rfl ?_
            exact ⟨by rw [HX.out]; rfl, by first | exact below_set (below_set hB3 (by omega) _) (by omega) _ | exact (below_set (below_set hB3 (by omega) _) (by omega) _).alloc (by simp; omega) _⟩
          · have HX := hide (show meetL (a, b) (c, d) = none by unfold meetL; simp only; rw [show max a c = c by omega, show min b d = d by omega, if_neg (fun h => h3 h.2.2)])
            have d3 : decide (c ≥ d) = true := decide_eq_true (by omega)
            clear h3
            go_enter Tryd.func36, Tryd.ntmps36
            go_upto_region 1 with fail
            obtain ⟨w1, hw1⟩ : ∃ w1 : World, w1 = (((w).alloc (.cells #[.int .i64 a, .int .i64 b] 31)).alloc (.cells #[.int .i64 c, .int .i64 d] 31)).alloc (.cells #[.int .i64 0, .int .i64 0] 31) := ⟨_, rfl⟩
            rw [← hw1]
            have hB1 : Below w.heap.size w w1 := by rw [hw1]; exact ((((Below.refl _ _).alloc (Nat.le_refl _) _).alloc (by simp; try omega) _).alloc (by simp; try omega) _)
            have X : Blk w1 (w.heap.size) 31 #[.int .i64 a, .int .i64 b] := by rw [hw1]; exact (((Blk.new _ _ _).alloc _).alloc _)
            have Y : Blk w1 (w.heap.size + 1) 31 #[.int .i64 c, .int .i64 d] := by rw [hw1]; exact ((Blk.new' (by simp)).alloc _)
            have Z : Blk w1 (w.heap.size + 2) 31 #[.int .i64 0, .int .i64 0] := by rw [hw1]; exact (Blk.new' (by simp))
            clear hw1
            have cX := X.cell
            have cY := Y.cell
            have cZ := Z.cell
            go_wp2_with fail
            refine (sright_any a b w1).mono ?_
            rw [hr]
            rintro e w2 ⟨rfl, hb2⟩
            have hB2 := hB1.trans (hb2.mono hB1.size)
            replace X := X.below hb2 X.lt
            replace Y := Y.below hb2 Y.lt
            replace Z := Z.below hb2 Z.lt
            clear cX cY cZ hb2
            have cX := X.cell
            have cY := Y.cell
            have cZ := Z.cell
            have fZ := Z.frozen
            have lZ := Z.lt
            have hz2 := hB2.size
            have cZ2 : ∀ i, w2.cell? ⟨w.heap.size + 1 + 1, i, none⟩ = #[Value.int .i64 0, Value.int .i64 0][i]? := cZ
            have fZ2 : ∀ i, w2.frozen? ⟨w.heap.size + 1 + 1, i, none⟩ = false := fZ
            have lZ2 : w.heap.size + 1 + 1 < w2.heap.size := lZ
            go_wp2_with fail
            refine (sright_any c d w2).mono ?_
            rw [hs]
            rintro e w3 ⟨rfl, hb3⟩
            have hB3 := hB2.trans (hb3.mono hB2.size)
            replace X := X.below hb3 X.lt
            replace Y := Y.below hb3 Y.lt
            replace Z := Z.below hb3 Z.lt
            clear cX cY cZ hb3
            have cX := X.cell
            have cY := Y.cell
            have cZ := Z.cell
            have fZ := Z.frozen
            have lZ := Z.lt
            have hz3 := hB3.size
            have cZ2 : ∀ i, w3.cell? ⟨w.heap.size + 1 + 1, i, none⟩ = #[Value.int .i64 0, Value.int .i64 0][i]? := cZ
            have fZ2 : ∀ i, w3.frozen? ⟨w.heap.size + 1 + 1, i, none⟩ = false := fZ
            have lZ2 : w.heap.size + 1 + 1 < w3.heap.size := lZ
            go_wp2_with fail
            refine bodyPost_ret (v := .tuple #[.agg #[.int .i64 0, .int .i64 0], .bool false]) (by simp [results, Tryd.results36, go_sem, cZ2, fZ2, lZ2]) rfl ?_
            exact ⟨by rw [HX.out]; rfl, by first | exact below_set (below_set hB3 (by omega) _) (by omega) _ | exact (below_set (below_set hB3 (by omega) _) (by omega) _).alloc (by simp; omega) _⟩
        · by_cases h3 : c < b
          · have HX := hide (show meetL (a, b) (c, d) = some (c, b) by unfold meetL; simp only; rw [show max a c = c by omega, show min b d = b by omega, if_pos ⟨hr, hs, h3⟩])
            have h2' : d ≥ b := by omega
            have d3 : decide (c ≥ b) = false := decide_eq_false (by omega)
            clear h3
            go_enter Tryd.func36, Tryd.ntmps36
            go_upto_region 1 with fail
            obtain ⟨w1, hw1⟩ : ∃ w1 : World, w1 = (((w).alloc (.cells #[.int .i64 a, .int .i64 b] 31)).alloc (.cells #[.int .i64 c, .int .i64 d] 31)).alloc (.cells #[.int .i64 0, .int .i64 0] 31) := ⟨_, rfl⟩
            rw [← hw1]
            have hB1 : Below w.heap.size w w1 := by rw [hw1]; exact ((((Below.refl _ _).alloc (Nat.le_refl _) _).alloc (by simp; try omega) _).alloc (by simp; try omega) _)
            have X : Blk w1 (w.heap.size) 31 #[.int .i64 a, .int .i64 b] := by rw [hw1]; exact (((Blk.new _ _ _).alloc _).alloc _)
            have Y : Blk w1 (w.heap.size + 1) 31 #[.int .i64 c, .int .i64 d] := by rw [hw1]; exact ((Blk.new' (by simp)).alloc _)
            have Z : Blk w1 (w.heap.size + 2) 31 #[.int .i64 0, .int .i64 0] := by rw [hw1]; exact (Blk.new' (by simp))
            clear hw1
            have cX := X.cell
            have cY := Y.cell
            have cZ := Z.cell
            go_wp2_with fail
            refine (sright_any a b w1).mono ?_
            rw [hr]
            rintro e w2 ⟨rfl, hb2⟩
            have hB2 := hB1.trans (hb2.mono hB1.size)
            replace X := X.below hb2 X.lt
            replace Y := Y.below hb2 Y.lt
            replace Z := Z.below hb2 Z.lt
            clear cX cY cZ hb2
            have cX := X.cell
            have cY := Y.cell
            have cZ := Z.cell
            have fZ := Z.frozen
            have lZ := Z.lt
            have hz2 := hB2.size
            have cZ2 : ∀ i, w2.cell? ⟨w.heap.size + 1 + 1, i, none⟩ = #[Value.int .i64 0, Value.int .i64 0][i]? := cZ
            have fZ2 : ∀ i, w2.frozen? ⟨w.heap.size + 1 + 1, i, none⟩ = false := fZ
            have lZ2 : w.heap.size + 1 + 1 < w2.heap.size := lZ
            go_wp2_with fail
            refine (sright_any c d w2).mono ?_
            rw [hs]
            rintro e w3 ⟨rfl, hb3⟩
            have hB3 := hB2.trans (hb3.mono hB2.size)
            replace X := X.below hb3 X.lt
            replace Y := Y.below hb3 Y.lt
            replace Z := Z.below hb3 Z.lt
            clear cX cY cZ hb3
            have cX := X.cell
            have cY := Y.cell
            have cZ := Z.cell
            have fZ := Z.frozen
            have lZ := Z.lt
            have hz3 := hB3.size
            have cZ2 : ∀ i, w3.cell? ⟨w.heap.size + 1 + 1, i, none⟩ = #[Value.int .i64 0, Value.int .i64 0][i]? := cZ
            have fZ2 : ∀ i, w3.frozen? ⟨w.heap.size + 1 + 1, i, none⟩ = false := fZ
            have lZ2 : w.heap.size + 1 + 1 < w3.heap.size := lZ
            go_wp2_with fail
            refine bodyPost_ret (v := .tuple #[.agg #[.int .i64 c, .int .i64 b], .bool true]) (by simp [results, Tryd.results36, go_sem, cZ2, fZ2, lZ2]) rfl ?_
            exact ⟨by rw [HX.out]; rfl, by first | exact below_set (below_set hB3 (by omega) _) (by omega) _ | exact (below_set (below_set hB3 (by omega) _) (by omega) _).alloc (by simp; omega) _⟩
          · have HX := hide (show meetL (a, b) (c, d) = none by unfold meetL; simp only; rw [show max a c = c by omega, show min b d = b by omega, if_neg (fun h => h3 h.2.2)])
            have h2' : d ≥ b := by omega
            have d3 : decide (c ≥ b) = true := decide_eq_true (by omega)
            clear h3
            go_enter Tryd.func36, Tryd.ntmps36
            go_upto_region 1 with fail
            obtain ⟨w1, hw1⟩ : ∃ w1 : World, w1 = (((w).alloc (.cells #[.int .i64 a, .int .i64 b] 31)).alloc (.cells #[.int .i64 c, .int .i64 d] 31)).alloc (.cells #[.int .i64 0, .int .i64 0] 31) := ⟨_, rfl⟩
            rw [← hw1]
            have hB1 : Below w.heap.size w w1 := by rw [hw1]; exact ((((Below.refl _ _).alloc (Nat.le_refl _) _).alloc (by simp; try omega) _).alloc (by simp; try omega) _)
            have X : Blk w1 (w.heap.size) 31 #[.int .i64 a, .int .i64 b] := by rw [hw1]; exact (((Blk.new _ _ _).alloc _).alloc _)
            have Y : Blk w1 (w.heap.size + 1) 31 #[.int .i64 c, .int .i64 d] := by rw [hw1]; exact ((Blk.new' (by simp)).alloc _)
            have Z : Blk w1 (w.heap.size + 2) 31 #[.int .i64 0, .int .i64 0] := by rw [hw1]; exact (Blk.new' (by simp))
            clear hw1
            have cX := X.cell
            have cY := Y.cell
            have cZ := Z.cell
            go_wp2_with fail
            refine (sright_any a b w1).mono ?_
            rw [hr]
            rintro e w2 ⟨rfl, hb2⟩
            have hB2 := hB1.trans (hb2.mono hB1.size)
            replace X := X.below hb2 X.lt
            replace Y := Y.below hb2 Y.lt
            replace Z := Z.below hb2 Z.lt
            clear cX cY cZ hb2
            have cX := X.cell
            have cY := Y.cell
            have cZ := Z.cell
            have fZ := Z.frozen
            have lZ := Z.lt
            have hz2 := hB2.size
            have cZ2 : ∀ i, w2.cell? ⟨w.heap.size + 1 + 1, i, none⟩ = #[Value.int .i64 0, Value.int .i64 0][i]? := cZ
            have fZ2 : ∀ i, w2.frozen? ⟨w.heap.size + 1 + 1, i, none⟩ = false := fZ
            have lZ2 : w.heap.size + 1 + 1 < w2.heap.size := lZ
            go_wp2_with fail
            refine (sright_any c d w2).mono ?_
            rw [hs]
            rintro e w3 ⟨rfl, hb3⟩
            have hB3 := hB2.trans (hb3.mono hB2.size)
            replace X := X.below hb3 X.lt
            replace Y := Y.below hb3 Y.lt
            replace Z := Z.below hb3 Z.lt
            clear cX cY cZ hb3
            have cX := X.cell
            have cY := Y.cell
            have cZ := Z.cell
            have fZ := Z.frozen
            have lZ := Z.lt
            have hz3 := hB3.size
            have cZ2 : ∀ i, w3.cell? ⟨w.heap.size + 1 + 1, i, none⟩ = #[Value.int .i64 0, Value.int .i64 0][i]? := cZ
            have fZ2 : ∀ i, w3.frozen? ⟨w.heap.size + 1 + 1, i, none⟩ = false := fZ
            have lZ2 : w.heap.size + 1 + 1 < w3.heap.size := lZ
            go_wp2_with fail
            refine bodyPost_ret (v := .tuple #[.agg #[.int .i64 0, .int .i64 0], .bool false]) (by simp [results, Tryd.results36, go_sem, cZ2, fZ2, lZ2]) rfl ?_
            exact ⟨by rw [HX.out]; rfl, by first | exact below_set (below_set hB3 (by omega) _) (by omega) _ | exact (below_set (below_set hB3 (by omega) _) (by omega) _).alloc (by simp; omega) _⟩
      · by_cases h2 : d < b
        · by_cases h3 : a < d
          · have HX := hide (show meetL (a, b) (c, d) = some (a, d) by unfold meetL; simp only; rw [show max a c = a by omega, show min b d = d by omega, if_pos ⟨hr, hs, h3⟩])
            have h1' : a ≥ c := by omega
            have d3 : decide (a ≥ d) = false := decide_eq_false (by omega)
            clear h3
            go_enter Tryd.func36, Tryd.ntmps36
            go_upto_region 1 with fail
            obtain ⟨w1, hw1⟩ : ∃ w1 : World, w1 = (((w).alloc (.cells #[.int .i64 a, .int .i64 b] 31)).alloc (.cells #[.int .i64 c, .int .i64 d] 31)).alloc (.cells #[.int .i64 0, .int .i64 0] 31) := ⟨_, rfl⟩
            rw [← hw1]
            have hB1 : Below w.heap.size w w1 := by rw [hw1]; exact ((((Below.refl _ _).alloc (Nat.le_refl _) _).alloc (by simp; try omega) _).alloc (by simp; try omega) _)
            have X : Blk w1 (w.heap.size) 31 #[.int .i64 a, .int .i64 b] := by rw [hw1]; exact (((Blk.new _ _ _).alloc _).alloc _)
            have Y : Blk w1 (w.heap.size + 1) 31 #[.int .i64 c, .int .i64 d] := by rw [hw1]; exact ((Blk.new' (by simp)).alloc _)
            have Z : Blk w1 (w.heap.size + 2) 31 #[.int .i64 0, .int .i64 0] := by rw [hw1]; exact (Blk.new' (by simp))
            clear hw1
            have cX := X.cell
            have cY := Y.cell
            have cZ := Z.cell
            go_wp2_with fail
            refine (sright_any a b w1).mono ?_
            rw [hr]
            rintro e w2 ⟨rfl, hb2⟩
            have hB2 := hB1.trans (hb2.mono hB1.size)
            replace X := X.below hb2 X.lt
            replace Y := Y.below hb2 Y.lt
            replace Z := Z.below hb2 Z.lt
            clear cX cY cZ hb2
            have cX := X.cell
            have cY := Y.cell
            have cZ := Z.cell
            have fZ := Z.frozen
            have lZ := Z.lt
            have hz2 := hB2.size
            have cZ2 : ∀ i, w2.cell? ⟨w.heap.size + 1 + 1, i, none⟩ = #[Value.int .i64 0, Value.int .i64 0][i]? := cZ
            have fZ2 : ∀ i, w2.frozen? ⟨w.heap.size + 1 + 1, i, none⟩ = false := fZ
            have lZ2 : w.heap.size + 1 + 1 < w2.heap.size := lZ
            go_wp2_with fail
            refine (sright_any c d w2).mono ?_
            rw [hs]
            rintro e w3 ⟨rfl, hb3⟩
            have hB3 := hB2.trans (hb3.mono hB2.size)
            replace X := X.below hb3 X.lt
            replace Y := Y.below hb3 Y.lt
            replace Z := Z.below hb3 Z.lt
            clear cX cY cZ hb3
            have cX := X.cell
            have cY := Y.cell
            have cZ := Z.cell
            have fZ := Z.frozen
            have lZ := Z.lt
            have hz3 := hB3.size
            have cZ2 : ∀ i, w3.cell? ⟨w.heap.size + 1 + 1, i, none⟩ = #[Value.int .i64 0, Value.int .i64 0][i]? := cZ
            have fZ2 : ∀ i, w3.frozen? ⟨w.heap.size + 1 + 1, i, none⟩ = false := fZ
            have lZ2 : w.heap.size + 1 + 1 < w3.heap.size := lZ
            go_wp2_with fail
            refine bodyPost_ret (v := .tuple #[.agg #[.int .i64 a, .int .i64 d], .bool true]) (by simp [results, Tryd.results36, go_sem, cZ2, fZ2, lZ2]) rfl ?_
            exact ⟨by rw [HX.out]; rfl, by first | exact below_set (below_set hB3 (by omega) _) (by omega) _ | exact (below_set (below_set hB3 (by omega) _) (by omega) _).alloc (by simp; omega) _⟩
          · have HX := hide (show meetL (a, b) (c, d) = none by unfold meetL; simp only; rw [show max a c = a by omega, show min b d = d by omega, if_neg (fun h => h3 h.2.2)])
            have h1' : a ≥ c := by omega
            have d3 : decide (a ≥ d) = true := decide_eq_true (by omega)
            clear h3
            go_enter Tryd.func36, Tryd.ntmps36
            go_upto_region 1 with fail
            obtain ⟨w1, hw1⟩ : ∃ w1 : World, w1 = (((w).alloc (.cells #[.int .i64 a, .int .i64 b] 31)).alloc (.cells #[.int .i64 c, .int .i64 d] 31)).alloc (.cells #[.int .i64 0, .int .i64 0] 31) := ⟨_, rfl⟩
            rw [← hw1]
            have hB1 : Below w.heap.size w w1 := by rw [hw1]; exact ((((Below.refl _ _).alloc (Nat.le_refl _) _).alloc (by simp; try omega) _).alloc (by simp; try omega) _)
            have X : Blk w1 (w.heap.size) 31 #[.int .i64 a, .int .i64 b] := by rw [hw1]; exact (((Blk.new _ _ _).alloc _).alloc _)
            have Y : Blk w1 (w.heap.size + 1) 31 #[.int .i64 c, .int .i64 d] := by rw [hw1]; exact ((Blk.new' (by simp)).alloc _)
            have Z : Blk w1 (w.heap.size + 2) 31 #[.int .i64 0, .int .i64 0] := by rw [hw1]; exact (Blk.new' (by simp))
            clear hw1
            have cX := X.cell
            have cY := Y.cell
            have cZ := Z.cell
            go_wp2_with fail
            refine (sright_any a b w1).mono ?_
            rw [hr]
            rintro e w2 ⟨rfl, hb2⟩
            have hB2 := hB1.trans (hb2.mono hB1.size)
            replace X := X.below hb2 X.lt
            replace Y := Y.below hb2 Y.lt
            replace Z := Z.below hb2 Z.lt
            clear cX cY cZ hb2
            have cX := X.cell
            have cY := Y.cell
            have cZ := Z.cell
            have fZ := Z.frozen
            have lZ := Z.lt
            have hz2 := hB2.size
            have cZ2 : ∀ i, w2.cell? ⟨w.heap.size + 1 + 1, i, none⟩ = #[Value.int .i64 0, Value.int .i64 0][i]? := cZ
            have fZ2 : ∀ i, w2.frozen? ⟨w.heap.size + 1 + 1, i, none⟩ = false := fZ
            have lZ2 : w.heap.size + 1 + 1 < w2.heap.size := lZ
            go_wp2_with fail
            refine (sright_any c d w2).mono ?_
            rw [hs]
            rintro e w3 ⟨rfl, hb3⟩
            have hB3 := hB2.trans (hb3.mono hB2.size)
            replace X := X.below hb3 X.lt
            replace Y := Y.below hb3 Y.lt
            replace Z := Z.below hb3 Z.lt
            clear cX cY cZ hb3
            have cX := X.cell
            have cY := Y.cell
            have cZ := Z.cell
            have fZ := Z.frozen
            have lZ := Z.lt
            have hz3 := hB3.size
            have cZ2 : ∀ i, w3.cell? ⟨w.heap.size + 1 + 1, i, none⟩ = #[Value.int .i64 0, Value.int .i64 0][i]? := cZ
            have fZ2 : ∀ i, w3.frozen? ⟨w.heap.size + 1 + 1, i, none⟩ = false := fZ
            have lZ2 : w.heap.size + 1 + 1 < w3.heap.size := lZ
            go_wp2_with fail
            refine bodyPost_ret (v := .tuple #[.agg #[.int .i64 0, .int .i64 0], .bool false]) (by simp [results, Tryd.results36, go_sem, cZ2, fZ2, lZ2]) rfl ?_
            exact ⟨by rw [HX.out]; rfl, by first | exact below_set (below_set hB3 (by omega) _) (by omega) _ | exact (below_set (below_set hB3 (by omega) _) (by omega) _).alloc (by simp; omega) _⟩
        · by_cases h3 : a < b
          · have HX := hide (show meetL (a, b) (c, d) = some (a, b) by unfold meetL; simp only; rw [show max a c = a by omega, show min b d = b by omega, if_pos ⟨hr, hs, h3⟩])
            have h1' : a ≥ c := by omega
            have h2' : d ≥ b := by omega
            have d3 : decide (a ≥ b) = false := decide_eq_false (by omega)
            clear h3
            go_enter Tryd.func36, Tryd.ntmps36
            go_upto_region 1 with fail
            obtain ⟨w1, hw1⟩ : ∃ w1 : World, w1 = (((w).alloc (.cells #[.int .i64 a, .int .i64 b] 31)).alloc (.cells #[.int .i64 c, .int .i64 d] 31)).alloc (.cells #[.int .i64 0, .int .i64 0] 31) := ⟨_, rfl⟩
            rw [← hw1]
            have hB1 : Below w.heap.size w w1 := by rw [hw1]; exact ((((Below.refl _ _).alloc (Nat.le_refl _) _).alloc (by simp; try omega) _).alloc (by simp; try omega) _)
            have X : Blk w1 (w.heap.size) 31 #[.int .i64 a, .int .i64 b] := by rw [hw1]; exact (((Blk.new _ _ _).alloc _).alloc _)
            have Y : Blk w1 (w.heap.size + 1) 31 #[.int .i64 c, .int .i64 d] := by rw [hw1]; exact ((Blk.new' (by simp)).alloc _)
            have Z : Blk w1 (w.heap.size + 2) 31 #[.int .i64 0, .int .i64 0] := by rw [hw1]; exact (Blk.new' (by simp))
            clear hw1
            have cX := X.cell
            have cY := Y.cell
            have cZ := Z.cell
            go_wp2_with fail
            refine (sright_any a b w1).mono ?_
            rw [hr]
            rintro e w2 ⟨rfl, hb2⟩
            have hB2 := hB1.trans (hb2.mono hB1.size)
            replace X := X.below hb2 X.lt
            replace Y := Y.below hb2 Y.lt
            replace Z := Z.below hb2 Z.lt
            clear cX cY cZ hb2
            have cX := X.cell
            have cY := Y.cell
            have cZ := Z.cell
            have fZ := Z.frozen
            have lZ := Z.lt
            have hz2 := hB2.size
            have cZ2 : ∀ i, w2.cell? ⟨w.heap.size + 1 + 1, i, none⟩ = #[Value.int .i64 0, Value.int .i64 0][i]? := cZ
            have fZ2 : ∀ i, w2.frozen? ⟨w.heap.size + 1 + 1, i, none⟩ = false := fZ
            have lZ2 : w.heap.size + 1 + 1 < w2.heap.size := lZ
            go_wp2_with fail
            refine (sright_any c d w2).mono ?_
            rw [hs]
            rintro e w3 ⟨rfl, hb3⟩
            have hB3 := hB2.trans (hb3.mono hB2.size)
            replace X := X.below hb3 X.lt
            replace Y := Y.below hb3 Y.lt
            replace Z := Z.below hb3 Z.lt
            clear cX cY cZ hb3
            have cX := X.cell
            have cY := Y.cell
            have cZ := Z.cell
            have fZ := Z.frozen
            have lZ := Z.lt
            have hz3 := hB3.size
            have cZ2 : ∀ i, w3.cell? ⟨w.heap.size + 1 + 1, i, none⟩ = #[Value.int .i64 0, Value.int .i64 0][i]? := cZ
            have fZ2 : ∀ i, w3.frozen? ⟨w.heap.size + 1 + 1, i, none⟩ = false := fZ
            have lZ2 : w.heap.size + 1 + 1 < w3.heap.size := lZ
            go_wp2_with fail
            refine bodyPost_ret (v := .tuple #[.agg #[.int .i64 a, .int .i64 b], .bool true]) (by simp [results, Tryd.results36, go_sem, cZ2, fZ2, lZ2]) rfl ?_
            exact ⟨by rw [HX.out]; rfl, by first | exact below_set (below_set hB3 (by omega) _) (by omega) _ | exact (below_set (below_set hB3 (by omega) _) (by omega) _).alloc (by simp; omega) _⟩
          · have HX := hide (show meetL (a, b) (c, d) = none by unfold meetL; simp only; rw [show max a c = a by omega, show min b d = b by omega, if_neg (fun h => h3 h.2.2)])
            have h1' : a ≥ c := by omega
            have h2' : d ≥ b := by omega
            have d3 : decide (a ≥ b) = true := decide_eq_true (by omega)
            clear h3
            go_enter Tryd.func36, Tryd.ntmps36
            go_upto_region 1 with fail
            obtain ⟨w1, hw1⟩ : ∃ w1 : World, w1 = (((w).alloc (.cells #[.int .i64 a, .int .i64 b] 31)).alloc (.cells #[.int .i64 c, .int .i64 d] 31)).alloc (.cells #[.int .i64 0, .int .i64 0] 31) := ⟨_, rfl⟩
            rw [← hw1]
            have hB1 : Below w.heap.size w w1 := by rw [hw1]; exact ((((Below.refl _ _).alloc (Nat.le_refl _) _).alloc (by simp; try omega) _).alloc (by simp; try omega) _)
            have X : Blk w1 (w.heap.size) 31 #[.int .i64 a, .int .i64 b] := by rw [hw1]; exact (((Blk.new _ _ _).alloc _).alloc _)
            have Y : Blk w1 (w.heap.size + 1) 31 #[.int .i64 c, .int .i64 d] := by rw [hw1]; exact ((Blk.new' (by simp)).alloc _)
            have Z : Blk w1 (w.heap.size + 2) 31 #[.int .i64 0, .int .i64 0] := by rw [hw1]; exact (Blk.new' (by simp))
            clear hw1
            have cX := X.cell
            have cY := Y.cell
            have cZ := Z.cell
            go_wp2_with fail
            refine (sright_any a b w1).mono ?_
            rw [hr]
            rintro e w2 ⟨rfl, hb2⟩
            have hB2 := hB1.trans (hb2.mono hB1.size)
            replace X := X.below hb2 X.lt
            replace Y := Y.below hb2 Y.lt
            replace Z := Z.below hb2 Z.lt
            clear cX cY cZ hb2
            have cX := X.cell
            have cY := Y.cell
            have cZ := Z.cell
            have fZ := Z.frozen
            have lZ := Z.lt
            have hz2 := hB2.size
            have cZ2 : ∀ i, w2.cell? ⟨w.heap.size + 1 + 1, i, none⟩ = #[Value.int .i64 0, Value.int .i64 0][i]? := cZ
            have fZ2 : ∀ i, w2.frozen? ⟨w.heap.size + 1 + 1, i, none⟩ = false := fZ
            have lZ2 : w.heap.size + 1 + 1 < w2.heap.size := lZ
            go_wp2_with fail
            refine (sright_any c d w2).mono ?_
            rw [hs]
            rintro e w3 ⟨rfl, hb3⟩
            have hB3 := hB2.trans (hb3.mono hB2.size)
            replace X := X.below hb3 X.lt
            replace Y := Y.below hb3 Y.lt
            replace Z := Z.below hb3 Z.lt
            clear cX cY cZ hb3
            have cX := X.cell
            have cY := Y.cell
            have cZ := Z.cell
            have fZ := Z.frozen
            have lZ := Z.lt
            have hz3 := hB3.size
            have cZ2 : ∀ i, w3.cell? ⟨w.heap.size + 1 + 1, i, none⟩ = #[Value.int .i64 0, Value.int .i64 0][i]? := cZ
            have fZ2 : ∀ i, w3.frozen? ⟨w.heap.size + 1 + 1, i, none⟩ = false := fZ
            have lZ2 : w.heap.size + 1 + 1 < w3.heap.size := lZ
            go_wp2_with fail
            refine bodyPost_ret (v := .tuple #[.agg #[.int .i64 0, .int .i64 0], .bool false]) (by simp [results, Tryd.results36, go_sem, cZ2, fZ2, lZ2]) rfl ?_
            exact ⟨by rw [HX.out]; rfl, by first | exact below_set (below_set hB3 (by omega) _) (by omega) _ | exact (below_set (below_set hB3 (by omega) _) (by omega) _).alloc (by simp; omega) _⟩

end Go.Proofs.YtfcbmajogmojbaaDoor
