/-
  The document's example.
-/
import Derived.Test.YtlfldnogjndglaaDoorCpE
import Derived.Test.YtlfldnogjndglaaDoorCpF
import Derived.Test.YtlfldnogjndglaaDoorCpG
import Derived.Test.YtlfldnogjndglaaDoorCtlC
namespace Go.Proofs.YtlfldnogjndglaaDoor
open Go.RowKit
set_option linter.unusedVariables false
set_option linter.unusedSimpArgs false

theorem wake_parse : parsesV [[77, 65, 88, 45, 65, 71, 69, 61, 57, 44, 32, 112, 114, 105, 118, 97, 116, 101], [109, 97, 120, 45, 97, 103, 101, 61, 34, 53, 34, 44, 120, 61, 49]] = ⟨5, -1, -1, -1, false, false, true⟩ := by kernel_rfl
theorem wake_text : ctlText 5 (-1) (-1) (-1) false false true = [112, 114, 105, 118, 97, 116, 101, 44, 32, 109, 97, 120, 45, 97, 103, 101, 61, 53] := by kernel_rfl
theorem wake_of : ofC 4 0 7 true = #[.int .i64 (-1), .int .i64 4, .int .i64 (-1), .int .i64 7, .bool false, .bool false, .bool false] := by kernel_rfl
theorem wake_age : ageV [32, 49, 50, 9] = 12 := by kernel_rfl
theorem wake_none : ageV [45, 49] = -1 := by kernel_rfl
def AgeIs (n e : Int) (w : World) (en : Ending) (w' : World) : Prop := en = .returned (.tuple #[.int .i64 n, .int .i64 e]) ∧ Below w.heap.size w w'
theorem age12 (w : World) : Calls Tryd.prog 8 #[.string ⟨#[32, 49, 50, 9]⟩] w (AgeIs 12 0 w) := by
  refine (cage_any ⟨#[32, 49, 50, 9]⟩ w (by decide)).mono fun e w' h => ?_
  obtain ⟨h, hb⟩ := h
  have e1 : (⟨#[32, 49, 50, 9]⟩ : ByteArray).data.toList = [32, 49, 50, 9] := rfl
  rw [e1, wake_age] at h
  exact ⟨h, hb⟩
theorem age_no (w : World) : Calls Tryd.prog 8 #[.string ⟨#[45, 49]⟩] w (AgeIs 0 2 w) := by
  refine (cage_any ⟨#[45, 49]⟩ w (by decide)).mono fun e w' h => ?_
  obtain ⟨h, hb⟩ := h
  have e1 : (⟨#[45, 49]⟩ : ByteArray).data.toList = [45, 49] := rfl
  rw [e1, wake_none] at h
  exact ⟨h, hb⟩

set_option maxRecDepth 100000 in
set_option maxHeartbeats 8000000 in
theorem awake9 (w : World) (hT : Tab w) (hM : MaxI w.heap.size w) : Calls Tryd.prog 4 #[] w (BoolOk true w) := by
  have HT := hide hT
  have HM := hide hM
  clear hT hM
  go_enter Tryd.func4, Tryd.ntmps4
  go_wp2_with fail
  obtain ⟨w1, hw1⟩ : ∃ w1 : World, w1 = w.alloc (.cells #[.string ⟨#[77, 65, 88, 45, 65, 71, 69, 61, 57, 44, 32, 112, 114, 105, 118, 97, 116, 101]⟩, .string ⟨#[109, 97, 120, 45, 97, 103, 101, 61, 34, 53, 34, 44, 120, 61, 49]⟩] 9) := ⟨_, rfl⟩
  rw [← hw1]
  have hB1 : Below w.heap.size w w1 := by rw [hw1]; exact (Below.refl _ _).alloc (Nat.le_refl _) _
  have RL : RdL LS w1 w1.heap.size (.slice (some ⟨w.heap.size, 0, none⟩) 2 2) [[77, 65, 88, 45, 65, 71, 69, 61, 57, 44, 32, 112, 114, 105, 118, 97, 116, 101], [109, 97, 120, 45, 97, 103, 101, 61, 34, 53, 34, 44, 120, 61, 49]] := by rw [hw1]; exact RdL.blk (Blk.new _ _ _) (by rfl) rfl (by decide)
  clear hw1
  refine (cparse_any _ _ w1 ((HM.out.below hB1).mono hB1.size) RL (by decide)).mono ?_
  rintro e w2 ⟨rfl, hb2⟩
  rw [wake_parse]
  unfold RuleM.cells
  have hB2 := hB1.trans (hb2.mono hB1.size)
  clear RL hb2
  go_wp2_with fail
  obtain ⟨w3, hw3⟩ : ∃ W : World, W = w2.alloc (.cells #[.int .i64 5, .int .i64 (-1), .int .i64 (-1), .int .i64 (-1), .bool false, .bool false, .bool true] 26) := ⟨_, rfl⟩
  rw [← hw3]
  have hB3 : Below w.heap.size w w3 := by rw [hw3]; exact hB2.alloc hB2.size _
  have P3 : Blk w3 w2.heap.size 26 #[.int .i64 5, .int .i64 (-1), .int .i64 (-1), .int .i64 (-1), .bool false, .bool false, .bool true] := by rw [hw3]; exact Blk.new _ _ _
  clear hw3
  refine (capply_any ⟨#[]⟩ false 0 0 0 0 0 0 _ ⟨#[]⟩ false [] 9 4 (-1) 7 false false false w3 (RdL.nil _ _ _ _ (by decide)) (by decide)).mono ?_
  rintro e w4 ⟨kv2, rfl, O4, hb4⟩
  obtain ⟨A4, c4, hv4, _, _⟩ := O4.rd.form
  subst hv4
  rw [show freshV 9 4 false = 4 by decide, show whileV (-1) false = 0 by decide, show whileV 7 false = 7 by decide, show keepV false false = true by decide]
  have hB4 := hB3.trans (hb4.mono hB3.size)
  have P4 := P3.below hb4 P3.lt
  clear P3 hb4 O4
  go_wp2_with fail
  obtain ⟨w5, hw5⟩ : ∃ W : World, W = w4.alloc (.cells #[.string ⟨#[]⟩, .bool false, .int .i64 0, .int .i64 0, .int .i64 0, .int .i64 4, .int .i64 0, .int .i64 7, .slice A4 0 c4, .string ⟨#[]⟩, .bool true] 31) := ⟨_, rfl⟩
  first | rw [← hw5] | skip
  have hB5 : Below w.heap.size w w5 := by rw [hw5]; exact hB4.alloc hB4.size _
  have P5 : Blk w5 w2.heap.size 26 #[.int .i64 5, .int .i64 (-1), .int .i64 (-1), .int .i64 (-1), .bool false, .bool false, .bool true] := by rw [hw5]; exact P4.alloc _
  have M5 : Blk w5 w4.heap.size 31 #[.string ⟨#[]⟩, .bool false, .int .i64 0, .int .i64 0, .int .i64 0, .int .i64 4, .int .i64 0, .int .i64 7, .slice A4 0 c4, .string ⟨#[]⟩, .bool true] := by rw [hw5]; exact Blk.new _ _ _
  clear hw5 P4
  refine (age12 w5).mono ?_
  rintro e w6 ⟨rfl, hb6⟩
  have hB6 := hB5.trans (hb6.mono hB5.size)
  have P6 := P5.below hb6 P5.lt
  have M6 := M5.below hb6 M5.lt
  clear P5 M5 hb6
  go_wp2_with fail
  refine (age_no w6).mono ?_
  rintro e w7 ⟨rfl, hb7⟩
  have hB7 := hB6.trans (hb7.mono hB6.size)
  have P7 := P6.below hb7 P6.lt
  have M7 := M6.below hb7 M6.lt
  clear P6 M6 hb7
  have cP := P7.cell
  have cM := M7.cell
  go_wp2_with fail
  refine (ctl_text 5 (-1) (-1) (-1) false false true w7 (HT.out.below hB7) (by decide) (by decide) (by decide) (by decide)).mono ?_
  rintro e w8 ⟨rfl, hb8⟩
  rw [wake_text]
  have hB8 := hB7.trans (hb8.mono hB7.size)
  have M8 := M7.below hb8 M7.lt
  clear P7 M7 hb8 cP cM
  have cM := M8.cell
  go_wp2_with fail
  refine (of_any ⟨#[]⟩ false 0 0 0 4 0 7 _ ⟨#[]⟩ true _).mono ?_
  rintro e w9 ⟨rfl, hb9⟩
  rw [wake_of]
  have hB9 := hB8.trans (hb9.mono hB8.size)
  clear hb9 cM M8
  go_wp2_with fail
  go_ret
  exact ⟨rfl, hB9⟩

end Go.Proofs.YtlfldnogjndglaaDoor
