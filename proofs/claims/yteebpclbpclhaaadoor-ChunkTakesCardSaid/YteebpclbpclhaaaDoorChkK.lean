/-
  Chunks: the example.
-/
import Derived.Test.YteebpclbpclhaaaDoorChkH
namespace Go.Proofs.YteebpclbpclhaaaDoor
open Go.RowKit Go.Lib
set_option linter.unusedVariables false
set_option linter.unusedSimpArgs false

theorem takes_ex : takeM Rs.zero [51, 13, 10, 97, 98, 99, 13, 10, 48, 13, 10, 13, 10, 114, 101, 115, 116] = (13, ⟨9, 0, 1, 0, 0⟩, [97, 98, 99], true) := rfl
theorem takes_ex2 : takeM Rs.zero [71] = (0, Rs.zero, [], false) := rfl
theorem whole_ex : wholeL 1 [97, 98, 99, 100, 101] ++ lastL = [50, 13, 10, 97, 98, 13, 10, 50, 13, 10, 99, 100, 13, 10, 49, 13, 10, 101, 13, 10, 48, 13, 10, 13, 10] := by
  rw [whole_cons (by simp)]
  simp only [List.take, List.drop]
  rw [whole_cons (by simp)]
  simp only [List.take, List.drop]
  rw [whole_cons (by simp)]
  simp only [List.take, List.drop]
  rw [whole_nil]
  simp [putL, hexB_low, lastL]
  decide
def TrueB (w : World) (e : Ending) (w' : World) : Prop := e = .returned (.bool true) ∧ Below w.heap.size w w'

set_option maxRecDepth 100000 in
set_option maxHeartbeats 8000000 in
theorem wakes_any (w : World) (hT : Tab w) : Calls Tryd.prog 10 #[] w (TrueB w) := by
  have HT := hide hT
  clear hT
  have kc := fun (W : World) (C : Array Value) (n c : Nat) => Lib.run_convert_bytes_const (P := Tryd.prog) W 24 5 C n c Tryd.underlying24 Tryd.underlying5
  go_enter Tryd.func10, Tryd.ntmps10
  go_wp2_with fail
  refine (new_chunk _).mono ?_
  rintro e w1 ⟨g, rfl, hg, X, hb1⟩
  have XS := hide X
  have lX := X.lt
  go_wp2_with fail
  obtain ⟨w2, hw2⟩ : ∃ w2 : World, w2 = w1.alloc (.cells #[.int .u8 51, .int .u8 13, .int .u8 10, .int .u8 97, .int .u8 98, .int .u8 99, .int .u8 13, .int .u8 10, .int .u8 48, .int .u8 13, .int .u8 10, .int .u8 13, .int .u8 10, .int .u8 114, .int .u8 101, .int .u8 115, .int .u8 116] 5 (17, 18)) := ⟨_, rfl⟩
  rw [← hw2]
  have hb2 : Below w.heap.size w w2 := by rw [hw2]; exact hb1.alloc hb1.size _
  have X2 : Blk w2 g 47 (rdC Rs.zero false) := by rw [hw2]; exact X.alloc _
  have hy2 : Byt w2 w2.heap.size (.slice (some ⟨w1.heap.size, 0, none⟩) 17 17) [51, 13, 10, 97, 98, 99, 13, 10, 48, 13, 10, 13, 10, 114, 101, 115, 116] := by rw [hw2]; exact Byt.const w1 5 (17, 18) [51, 13, 10, 97, 98, 99, 13, 10, 48, 13, 10, 13, 10, 114, 101, 115, 116] (by decide)
  clear hw2 X
  refine (take_any Rs.zero _ _ g w2 X2 inv_zero hy2).mono ?_
  intro e w3 hp
  rw [takes_ex] at hp
  obtain ⟨v3, rfl, ho3, X3, hbut3⟩ : ∃ v, e = .returned (.tuple #[v, .int .i64 ((13 : Nat) : Int), .int .i64 0]) ∧ OwnB w2.heap.size w3 v [97, 98, 99] ∧ Blk w3 g 47 (rdC ⟨9, 0, 1, 0, 0⟩ false) ∧ But g w2 w3 := hp
  have hb3 : Below w.heap.size w w3 := hbut3.bel hb2 hg hb2.size
  clear X2 hy2 XS lX
  go_upto_region 5 with fail
  go_wp2_with fail
  refine (new_chunk _).mono ?_
  rintro e w4 ⟨g2, rfl, hg2, Y, hbl4⟩
  have hb4 := hb3.trans (hbl4.mono hb3.size)
  have X4 := X3.below hbl4 X3.lt
  have ho4 := ho3.below hbl4 (Nat.le_refl _)
  go_wp2_with fail
  obtain ⟨w5, hw5⟩ : ∃ w5 : World, w5 = w4.alloc (.cells #[.int .u8 71] 5 (1, 2)) := ⟨_, rfl⟩
  rw [← hw5]
  have hb5 : Below w.heap.size w w5 := by rw [hw5]; exact hb4.alloc hb4.size _
  have Y5 : Blk w5 g2 47 (rdC Rs.zero false) := by rw [hw5]; exact Y.alloc _
  have X5 : Blk w5 g 47 (rdC ⟨9, 0, 1, 0, 0⟩ false) := by rw [hw5]; exact X4.alloc _
  have ho5 : OwnB w2.heap.size w5 v3 [97, 98, 99] := by rw [hw5]; exact ho4.alloc _
  have hy5 : Byt w5 w5.heap.size (.slice (some ⟨w4.heap.size, 0, none⟩) 1 1) [71] := by rw [hw5]; exact Byt.const w4 5 (1, 2) [71] (by decide)
  have hgg : g ≠ g2 := by have := X3.lt; omega
  clear hw5 X3 X4 Y ho3 ho4
  refine (take_any Rs.zero _ _ g2 w5 Y5 inv_zero hy5).mono ?_
  intro e w6 hp
  rw [takes_ex2] at hp
  obtain ⟨rfl, _, hbut6⟩ : e = .returned (.tuple #[.slice none 0 0, .int .i64 ((0 : Nat) : Int), .int .i64 2]) ∧ Some6 w6 g2 true ∧ But g2 w5 w6 := hp
  have hb6 : Below w.heap.size w w6 := hbut6.bel hb5 (Nat.le_trans hb3.size hg2) hb5.size
  have X6 := hbut6.blk X5 hgg
  have ho6 := ho5.but hbut6 (ho5.ne Y5 (by decide))
  clear hy5 Y5 X5 ho5
  go_upto_region 6 with fail
  go_wp2_with fail
  obtain ⟨w7, hw7⟩ : ∃ w7 : World, w7 = w6.alloc (.cells #[.int .u8 97, .int .u8 98, .int .u8 99, .int .u8 100, .int .u8 101] 5 (5, 6)) := ⟨_, rfl⟩
  rw [← hw7]
  have hb7 : Below w.heap.size w w7 := by rw [hw7]; exact hb6.alloc hb6.size _
  have X7 : Blk w7 g 47 (rdC ⟨9, 0, 1, 0, 0⟩ false) := by rw [hw7]; exact X6.alloc _
  have ho7 : OwnB w2.heap.size w7 v3 [97, 98, 99] := by rw [hw7]; exact ho6.alloc _
  have hy7 : Byt w7 w7.heap.size (.slice (some ⟨w6.heap.size, 0, none⟩) 5 5) [97, 98, 99, 100, 101] := by rw [hw7]; exact Byt.const w6 5 (5, 6) [97, 98, 99, 100, 101] (by decide)
  clear hw7 X6 ho6
  refine (whole_ok _ [97, 98, 99, 100, 101] 1 w7 (HT.out.below hb7) hy7 (by decide) (by decide)).mono ?_
  rintro e w8 ⟨v8, rfl, ho8, hbl8⟩
  rw [whole_ex] at ho8
  have hb8 := hb7.trans (hbl8.mono hb7.size)
  have X8 := X7.below hbl8 X7.lt
  have ho38 := ho7.below hbl8 (Nat.le_refl _)
  have s3 := run_byt_string w8 _ v3 _ (ho38.byt (by decide))
  have s8 := run_byt_string w8 _ v8 _ (ho8.byt (by decide))
  clear hy7 X7 ho7 kc
  go_upto_region 7 with fail
  go_wp2_with fail
  refine (done_chunk _ g w8 X8).mono ?_
  rintro e w9 ⟨rfl, rfl⟩
  go_wp2_with fail
  go_ret
  exact ⟨rfl, hb8⟩

end Go.Proofs.YteebpclbpclhaaaDoor
