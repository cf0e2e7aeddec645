/-
  The document's example.
-/
import Derived.Test.YtmelcndflllgmaaDoorMetD
import Derived.Test.YtmelcndflllgmaaDoorFldB
import Derived.Deep.RegionHeld3
import Derived.Deep.DeepCutAuto
namespace Go.Proofs.YtmelcndflllgmaaDoor
open Go.RowKit
set_option linter.unusedVariables false
set_option linter.unusedSimpArgs false

def wakeL : List FieldL := [([69, 84, 97, 103], [34, 118, 34]), ([67, 97, 99, 104, 101, 45, 67, 111, 110, 116, 114, 111, 108], [115, 45, 109, 97, 120, 97, 103, 101, 61, 54, 48]), ([65, 103, 101], [51]), ([88, 45, 76, 101, 110, 103, 116, 104], [42]), ([88, 45, 72, 97, 118, 101], [57])]
theorem wake_fields (dt : List UInt8) : fieldsF ⟨#[118]⟩ false (-1) (-1) 9 60 0 0 [] ⟨#[]⟩ true 3 dt = wakeL := by kernel_rfl
theorem wake_ok : metaOk ⟨#[118]⟩ false (-1) (-1) 9 60 0 0 [] ⟨#[]⟩ = true := by kernel_rfl

set_option maxRecDepth 100000 in
set_option maxHeartbeats 4000000 in
theorem wakes_any (w : World) (hT : Tab w) : Calls Tryd.prog 7 #[] w (BoolOk true w) := by
  have HT := hide hT
  clear hT
  go_enter Tryd.func7, Tryd.ntmps7
  go_wp2_with fail
  obtain ⟨w1, hw1⟩ : ∃ w1 : World, w1 = (w).alloc (.cells #[.string ⟨#[118]⟩, .bool false, .int .i64 (-1), .int .i64 (-1), .int .i64 9, .int .i64 60, .int .i64 0, .int .i64 0, .slice none 0 0, .string ⟨#[]⟩, .bool true] 26) := ⟨_, rfl⟩
  rw [← hw1]
  have hB1 : Below w.heap.size w w1 := by rw [hw1]; exact ((Below.refl _ _).alloc (Nat.le_refl _) _)
  have T : Blk w1 (w.heap.size) 26 #[.string ⟨#[118]⟩, .bool false, .int .i64 (-1), .int .i64 (-1), .int .i64 9, .int .i64 60, .int .i64 0, .int .i64 0, .slice none 0 0, .string ⟨#[]⟩, .bool true] := by rw [hw1]; exact (Blk.new _ _ _)
  clear hw1
  have cT := T.cell
  refine (fields_yes ⟨#[118]⟩ false (-1) (-1) 9 60 0 0 _ ⟨#[]⟩ true 3 [] _ (by decide) (by decide) (RdStrs.nil _ _) (HT.out.below hB1) wake_ok (by decide)).mono ?_
  rintro e w2 ⟨v, dt, rfl, _, O, hb2⟩
  rw [wake_fields] at O
  have hB2 := hB1.trans (hb2.mono hB1.size)
  replace T := T.below hb2 T.lt
  clear cT hb2
  have cT := T.cell
  obtain ⟨A, c, hv, _, _⟩ := O.rd.form
  subst hv
  have SMK := hide (show ∀ W : World, Below w2.heap.size w2 W → (fun W => Below w2.heap.size w2 W ∧ W.cell? ⟨w.heap.size, 0, none⟩ = some (.string ⟨#[118]⟩) ∧ W.cell? ⟨w.heap.size, 1, none⟩ = some (.bool false) ∧ W.cell? ⟨w.heap.size, 2, none⟩ = some (.int .i64 (-1)) ∧ W.cell? ⟨w.heap.size, 3, none⟩ = some (.int .i64 (-1)) ∧ W.cell? ⟨w.heap.size, 4, none⟩ = some (.int .i64 9) ∧ W.cell? ⟨w.heap.size, 5, none⟩ = some (.int .i64 60) ∧ W.cell? ⟨w.heap.size, 6, none⟩ = some (.int .i64 0) ∧ W.cell? ⟨w.heap.size, 7, none⟩ = some (.int .i64 0) ∧ W.cell? ⟨w.heap.size, 8, none⟩ = some (.slice none 0 0) ∧ W.cell? ⟨w.heap.size, 9, none⟩ = some (.string ⟨#[]⟩) ∧ W.cell? ⟨w.heap.size, 10, none⟩ = some (.bool true)) W from fun W h => ⟨h, (T.below h T.lt).cell 0, (T.below h T.lt).cell 1, (T.below h T.lt).cell 2, (T.below h T.lt).cell 3, (T.below h T.lt).cell 4, (T.below h T.lt).cell 5, (T.below h T.lt).cell 6, (T.below h T.lt).cell 7, (T.below h T.lt).cell 8, (T.below h T.lt).cell 9, (T.below h T.lt).cell 10⟩)
  have CS := hide (fun (u : Value) (W : World) (h : Below w2.heap.size w2 W) (hu : RdL LF W W.heap.size u wakeL) => (fsame_any (.slice A wakeL.length c) u wakeL wakeL W W.heap.size W.heap.size (Nat.le_refl _) (Nat.le_refl _) ((O.rd.below h).mono h.size) hu : Calls Tryd.prog 15 _ _ _))
  rw [show decide (wakeL = wakeL) = true from decide_eq_true rfl] at CS
  clear SMK
  go_wp2_with fail
  obtain ⟨w3, hw3⟩ : ∃ W, W = w2.alloc (.cells #[.string ⟨#[69, 84, 97, 103]⟩, .string ⟨#[34, 118, 34]⟩, .string ⟨#[67, 97, 99, 104, 101, 45, 67, 111, 110, 116, 114, 111, 108]⟩, .string ⟨#[115, 45, 109, 97, 120, 97, 103, 101, 61, 54, 48]⟩, .string ⟨#[65, 103, 101]⟩, .string ⟨#[51]⟩, .string ⟨#[88, 45, 76, 101, 110, 103, 116, 104]⟩, .string ⟨#[42]⟩, .string ⟨#[88, 45, 72, 97, 118, 101]⟩, .string ⟨#[57]⟩] 38) := ⟨_, rfl⟩
  rw [← hw3]
  have hb3 : Below w2.heap.size w2 w3 := by rw [hw3]; exact (Below.refl _ _).alloc (Nat.le_refl _) _
  have RL : RdL LF w3 w3.heap.size (.slice (some ⟨w2.heap.size, 0, none⟩) 5 5) wakeL := by rw [hw3]; exact RdL.blk (Blk.new _ _ _) (by rfl) rfl (by decide)
  have hB3 := hB2.trans (hb3.mono hB2.size)
  replace T := T.below hb3 T.lt
  have RC := CS.out _ _ hb3 RL
  clear cT hw3
  have cT := T.cell
  refine RC.mono ?_
  rintro e w4 ⟨rfl, hb4⟩
  have hB4 := hB3.trans (hb4.mono hB3.size)
  replace T := T.below hb4 T.lt
  clear cT RL RC
  have cT := T.cell
  go_wp2_with fail
  refine (joins_any ⟨#[118]⟩ false (-1) (-1) 9 60 0 0 _ ⟨#[]⟩ true _ (by decide)).mono ?_
  rintro e w5 ⟨rfl, hb5⟩
  go_wp2_with fail
  go_ret
  exact ⟨ret_bool (by kernel_rfl), hB4.trans (hb5.mono hB4.size)⟩

end Go.Proofs.YtmelcndflllgmaaDoor
