/-
  The same conditions are the same.
-/
import Derived.Test.YtkmheoolekookaaDoorCndD
import Derived.Deep.DeepCutAuto
namespace Go.Proofs.YtkmheoolekookaaDoor
open Go.RowKit
set_option linter.unusedVariables false
set_option linter.unusedSimpArgs false

theorem tags8_self (v1 v2 : Value) (l : List TagL) (w : World) (hr1 : RdL LT w w.heap.size v1 l) (hr2 : RdL LT w w.heap.size v2 l) : Calls Tryd.prog 27 #[v1, v2] w (BoolOk true w) := by
  have h := tags8_any v1 v2 l l w hr1 hr2
  rwa [decide_eq_true (rfl : l = l)] at h

set_option maxRecDepth 100000 in
set_option maxHeartbeats 4000000 in
theorem same8_self (v1 v2 u1 u2 : Value) (ml nl : List TagL) (am an : Bool) (si un : Int) (x : ByteArray) (rb : Bool) (w : World) (h1 : RdL LT w w.heap.size v1 ml) (h2 : RdL LT w w.heap.size v2 nl) (h3 : RdL LT w w.heap.size u1 ml) (h4 : RdL LT w w.heap.size u2 nl) :
    Calls Tryd.prog 10 #[.agg #[v1, v2, .bool am, .bool an, .int .i64 si, .int .i64 un, .string x, .bool rb], .agg #[u1, u2, .bool am, .bool an, .int .i64 si, .int .i64 un, .string x, .bool rb]] w (BoolOk true w) := by
  obtain ⟨A1, c1, rfl, _, _⟩ := h1.form
  obtain ⟨A2, c2, rfl, _, _⟩ := h2.form
  obtain ⟨A3, c3, rfl, _, _⟩ := h3.form
  obtain ⟨A4, c4, rfl, _, _⟩ := h4.form
  have H1 := hide h1
  have H2 := hide h2
  have H3 := hide h3
  have H4 := hide h4
  clear h1 h2 h3 h4
  go_enter Tryd.func10, Tryd.ntmps10
  go_upto_region 1 with fail
  obtain ⟨w1, hw1⟩ : ∃ w1 : World, w1 = ((w).alloc (.cells #[.slice A1 ml.length c1, .slice A2 nl.length c2, .bool am, .bool an, .int .i64 si, .int .i64 un, .string x, .bool rb] 29)).alloc (.cells #[.slice A3 ml.length c3, .slice A4 nl.length c4, .bool am, .bool an, .int .i64 si, .int .i64 un, .string x, .bool rb] 29) := ⟨_, rfl⟩
  rw [← hw1]
  have hB1 : Below w.heap.size w w1 := by rw [hw1]; exact (((Below.refl _ _).alloc (Nat.le_refl _) _).alloc (by simp; try omega) _)
  have P : Blk w1 (w.heap.size) 29 #[.slice A1 ml.length c1, .slice A2 nl.length c2, .bool am, .bool an, .int .i64 si, .int .i64 un, .string x, .bool rb] := by rw [hw1]; exact ((Blk.new _ _ _).alloc _)
  have Q : Blk w1 (w.heap.size + 1) 29 #[.slice A3 ml.length c3, .slice A4 nl.length c4, .bool am, .bool an, .int .i64 si, .int .i64 un, .string x, .bool rb] := by rw [hw1]; exact (Blk.new' (by simp))
  clear hw1
  have cP := P.cell
  have cQ := Q.cell
  go_wp2_with fail
  refine (tags8_self _ _ ml w1 ((H1.out.below hB1).mono hB1.size) ((H3.out.below hB1).mono hB1.size)).mono ?_
  rintro e w2 ⟨rfl, hb2⟩
  have hB2 := hB1.trans (hb2.mono hB1.size)
  replace P := P.below hb2 P.lt
  replace Q := Q.below hb2 Q.lt
  clear cP cQ hb2
  have cP := P.cell
  have cQ := Q.cell
  go_wp2_with fail
  refine (tags8_self _ _ nl w2 ((H2.out.below hB2).mono hB2.size) ((H4.out.below hB2).mono hB2.size)).mono ?_
  rintro e w3 ⟨rfl, hb3⟩
  have hB3 := hB2.trans (hb3.mono hB2.size)
  replace P := P.below hb3 P.lt
  replace Q := Q.below hb3 Q.lt
  clear cP cQ hb3
  have cP := P.cell
  have cQ := Q.cell
  go_wp2_with fail
  go_ret
  exact ⟨ret_bool (by simp), hB3⟩

/-- The same conditions, wherever they lie, are the same. -/
theorem same8_at (a b : Value) (c : CondM) (w : World) (ha : CondAt w a c) (hb : CondAt w b c) : Calls Tryd.prog 10 #[a, b] w (BoolOk true w) := by
  obtain ⟨v1, v2, x, rfl, hx, h1, h2⟩ := ha
  obtain ⟨u1, u2, y, rfl, hy, h3, h4⟩ := hb
  obtain rfl : x = y := by apply ByteArray.ext; rw [← Array.toList_inj, hx, hy]
  exact same8_self v1 v2 u1 u2 _ _ _ _ _ _ x _ w h1 h2 h3 h4
theorem CondAt.below {w w' : World} {v : Value} {c : CondM} (h : CondAt w v c) (hb : Below w.heap.size w w') : CondAt w' v c := by
  obtain ⟨v1, v2, x, rfl, hx, h1, h2⟩ := h
  exact ⟨v1, v2, x, rfl, hx, (h1.below hb).mono hb.size, (h2.below hb).mono hb.size⟩

end Go.Proofs.YtkmheoolekookaaDoor
