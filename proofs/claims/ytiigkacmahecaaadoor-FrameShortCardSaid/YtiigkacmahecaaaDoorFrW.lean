/-
  Answers that the document fixes.
-/
import Derived.Test.YtiigkacmahecaaaDoorFrF
import Derived.Test.YtiigkacmahecaaaDoorFrU
namespace Go.Proofs.YtiigkacmahecaaaDoor
open Go.RowKit
set_option linter.unusedVariables false
set_option linter.unusedSimpArgs false

set_option maxHeartbeats 1000000 in
theorem fields_at (a b : ByteArray) (w : World) : Calls Tryd.prog 26 #[.string a, .string b] w fun e w' => e = .returned (.slice (some ⟨w.heap.size, 0, none⟩) 1 1) ∧ w' = w.alloc (.cells #[.string a, .string b] 59) := by
  go_enter Tryd.func26, Tryd.ntmps26
  go_wp2
  go_ret
  exact ⟨rfl, rfl⟩
theorem get_no : headB ⟨#[71, 69, 84]⟩ = false := by unfold headB; rw [ByteArray.toList_eq]; rfl
theorem b200 : bareB 200 = false := by decide
theorem b304 : bareB 304 = true := by decide
theorem trimB_val (l : Bs) : trimB l = ((l.reverse.dropWhile blankB).reverse).dropWhile blankB := trimB_eq l

set_option maxRecDepth 100000 in
theorem end_ex0 : endM (headB ⟨#[71, 69, 84]⟩ || bareB 200) (ofV [([99, 111, 110, 116, 101, 110, 116, 45, 108, 101, 110, 103, 116, 104], [53, 44, 32, 48, 53])] wTE) (ofV [([99, 111, 110, 116, 101, 110, 116, 45, 108, 101, 110, 103, 116, 104], [53, 44, 32, 48, 53])] wCL) = ⟨1, 5, 0⟩ := by
  rw [get_no, b200]
  rfl

set_option maxRecDepth 100000 in
theorem end_ex1 : endM (headB ⟨#[71, 69, 84]⟩ || bareB 200) (ofV [([84, 114, 97, 110, 115, 102, 101, 114, 45, 69, 110, 99, 111, 100, 105, 110, 103], [67, 104, 117, 110, 107, 101, 100])] wTE) (ofV [([84, 114, 97, 110, 115, 102, 101, 114, 45, 69, 110, 99, 111, 100, 105, 110, 103], [67, 104, 117, 110, 107, 101, 100])] wCL) = ⟨2, 0, 0⟩ := by
  rw [get_no, b200]
  rfl

set_option maxRecDepth 100000 in
theorem end_ex2 : endM (headB ⟨#[71, 69, 84]⟩ || bareB 200) (ofV [([67, 111, 110, 116, 101, 110, 116, 45, 76, 101, 110, 103, 116, 104], [53, 44, 32, 54])] wTE) (ofV [([67, 111, 110, 116, 101, 110, 116, 45, 76, 101, 110, 103, 116, 104], [53, 44, 32, 54])] wCL) = ⟨0, 0, 2⟩ := by
  rw [get_no, b200]
  rfl

theorem end_ex3 : endM (headB ⟨#[71, 69, 84]⟩ || bareB 304) (ofV [] wTE) (ofV [] wCL) = ⟨4, 0, 0⟩ := by
  rw [get_no, b304]
  rfl
theorem end_ex4 : endM (headB ⟨#[71, 69, 84]⟩ || bareB 200) (ofV [] wTE) (ofV [] wCL) = ⟨3, 0, 0⟩ := by
  rw [get_no, b200]
  rfl

theorem take_ex1 : takeF (Rf.new 1 3) [97, 98] = ⟨⟨1, 1, Rs.zero, false, false⟩, [97, 98], 2, 0⟩ := rfl
theorem take_ex2 : takeF ⟨1, 1, Rs.zero, false, false⟩ [99, 100, 101, 102] = ⟨⟨1, 0, Rs.zero, false, false⟩, [99], 1, 0⟩ := rfl

set_option maxRecDepth 100000 in
set_option maxHeartbeats 8000000 in
theorem awake_any (w : World) : Calls Tryd.prog 10 #[] w (BoolOk true w) := by
  have kc := fun (W : World) (C : Array Value) (n c : Nat) => Lib.run_convert_bytes_const (P := Tryd.prog) W 43 5 C n c Tryd.underlying43 Tryd.underlying5
  go_enter Tryd.func10, Tryd.ntmps10
  have hB0 := Below.refl w.heap.size w
  go_wp2_with fail
  refine (fields_at _ _ w).mono ?_
  rintro e w' ⟨rfl, rfl⟩
  go_wp2_with fail
  obtain ⟨w1, hw⟩ : ∃ W, W = w.alloc (.cells #[.string ⟨#[99, 111, 110, 116, 101, 110, 116, 45, 108, 101, 110, 103, 116, 104]⟩, .string ⟨#[53, 44, 32, 48, 53]⟩] 59) := ⟨_, rfl⟩
  rw [← hw]
  have R : RdL LF w1 w1.heap.size (.slice (some ⟨w.heap.size, 0, none⟩) 1 1) [([99, 111, 110, 116, 101, 110, 116, 45, 108, 101, 110, 103, 116, 104], [53, 44, 32, 48, 53])] := by rw [hw]; exact RdL.one_ (Blk.new _ _ _) rfl
  have hB1 : Below w.heap.size w w1 := by rw [hw]; exact hB0.alloc hB0.size _
  clear hw
  have C := fun mth obj => fOf_any mth obj 200 _ _ ⟨#[71, 69, 84]⟩ w1 R (fun f hf => by rw [List.mem_singleton.1 hf]; exact of_decide_eq_true (by rfl)) (fun f hf => by rw [List.mem_singleton.1 hf]; exact of_decide_eq_true (by rfl)) (by decide)
  rw [end_ex0] at C
  refine (C _ _).mono ?_
  rintro e w2 ⟨rfl, hb⟩
  have hB2 := hB1.trans (hb.mono hB1.size)
  clear C R hb
  go_wp2_with fail
  refine (fields_at _ _ w2).mono ?_
  rintro e w' ⟨rfl, rfl⟩
  go_wp2_with fail
  obtain ⟨w3, hw⟩ : ∃ W, W = w2.alloc (.cells #[.string ⟨#[84, 114, 97, 110, 115, 102, 101, 114, 45, 69, 110, 99, 111, 100, 105, 110, 103]⟩, .string ⟨#[67, 104, 117, 110, 107, 101, 100]⟩] 59) := ⟨_, rfl⟩
  rw [← hw]
  have R : RdL LF w3 w3.heap.size (.slice (some ⟨w2.heap.size, 0, none⟩) 1 1) [([84, 114, 97, 110, 115, 102, 101, 114, 45, 69, 110, 99, 111, 100, 105, 110, 103], [67, 104, 117, 110, 107, 101, 100])] := by rw [hw]; exact RdL.one_ (Blk.new _ _ _) rfl
  have hB3 : Below w.heap.size w w3 := by rw [hw]; exact hB2.alloc hB2.size _
  clear hw
  have C := fun mth obj => fOf_any mth obj 200 _ _ ⟨#[71, 69, 84]⟩ w3 R (fun f hf => by rw [List.mem_singleton.1 hf]; exact of_decide_eq_true (by rfl)) (fun f hf => by rw [List.mem_singleton.1 hf]; exact of_decide_eq_true (by rfl)) (by decide)
  rw [end_ex1] at C
  refine (C _ _).mono ?_
  rintro e w4 ⟨rfl, hb⟩
  have hB4 := hB3.trans (hb.mono hB3.size)
  clear C R hb
  go_wp2_with fail
  refine (fields_at _ _ w4).mono ?_
  rintro e w' ⟨rfl, rfl⟩
  go_wp2_with fail
  obtain ⟨w5, hw⟩ : ∃ W, W = w4.alloc (.cells #[.string ⟨#[67, 111, 110, 116, 101, 110, 116, 45, 76, 101, 110, 103, 116, 104]⟩, .string ⟨#[53, 44, 32, 54]⟩] 59) := ⟨_, rfl⟩
  rw [← hw]
  have R : RdL LF w5 w5.heap.size (.slice (some ⟨w4.heap.size, 0, none⟩) 1 1) [([67, 111, 110, 116, 101, 110, 116, 45, 76, 101, 110, 103, 116, 104], [53, 44, 32, 54])] := by rw [hw]; exact RdL.one_ (Blk.new _ _ _) rfl
  have hB5 : Below w.heap.size w w5 := by rw [hw]; exact hB4.alloc hB4.size _
  clear hw
  have C := fun mth obj => fOf_any mth obj 200 _ _ ⟨#[71, 69, 84]⟩ w5 R (fun f hf => by rw [List.mem_singleton.1 hf]; exact of_decide_eq_true (by rfl)) (fun f hf => by rw [List.mem_singleton.1 hf]; exact of_decide_eq_true (by rfl)) (by decide)
  rw [end_ex2] at C
  refine (C _ _).mono ?_
  rintro e w6 ⟨rfl, hb⟩
  have hB6 := hB5.trans (hb.mono hB5.size)
  clear C R hb
  go_wp2_with fail
  have C := fun mth obj => fOf_any mth obj 304 _ _ ⟨#[71, 69, 84]⟩ w6 (RdL.nil (L := LF) w6 w6.heap.size 0 none (by decide)) (fun f hf => by cases hf) (fun f hf => by cases hf) (by decide)
  rw [end_ex3] at C
  refine (C _ _).mono ?_
  rintro e w7 ⟨rfl, hb⟩
  have hB7 := hB6.trans (hb.mono hB6.size)
  clear C hb
  go_wp2_with fail
  have C := fun mth obj => fOf_any mth obj 200 _ _ ⟨#[71, 69, 84]⟩ w7 (RdL.nil (L := LF) w7 w7.heap.size 0 none (by decide)) (fun f hf => by cases hf) (fun f hf => by cases hf) (by decide)
  rw [end_ex4] at C
  refine (C _ _).mono ?_
  rintro e w8 ⟨rfl, hb⟩
  have hB8 := hB7.trans (hb.mono hB7.size)
  clear C hb
  go_wp2_with fail
  refine (new_yes 1 3 (by unfold okN; omega) w8).mono ?_
  rintro e w9 ⟨g, h, rfl, hg, hh, P, hb⟩
  have lg := Nat.le_trans hB8.size hg
  have lh := Nat.le_trans hB8.size hh
  have hB9 := hB8.trans (hb.mono hB8.size)
  clear hb hg hh
  change PR w9 g h (Rf.new 1 3) at P
  go_wp2_with fail
  refine (new_no 3 3 (by unfold okN; omega) w9).mono ?_
  rintro e w' ⟨rfl, rfl⟩
  go_wp2_with fail
  obtain ⟨w11, hw⟩ : ∃ W, W = w9.alloc (.cells #[.int .u8 97, .int .u8 98] 5 (2, 3)) := ⟨_, rfl⟩
  rw [← hw]
  have hB11 : Below w.heap.size w w11 := by rw [hw]; exact hB9.alloc hB9.size _
  replace P : PR w11 g h (Rf.new 1 3) := by rw [hw]; exact P.below ((Below.refl _ _).alloc (Nat.le_refl _) _) P.blk.lt P.lt
  have Y : Byt w11 w11.heap.size (.slice (some ⟨w9.heap.size, 0, none⟩) 2 2) [97, 98] := by rw [hw]; exact Byt.const w9 5 (2, 3) [97, 98] (by decide)
  clear hw
  refine (take_frame (Rf.new 1 3) _ _ g h w11 P (inv_new (by omega) (by omega)) Y).mono ?_
  intro e w12 hp
  unfold TakesF at hp
  rw [take_ex1] at hp
  have hP0 := P
  obtain ⟨v12, rfl, ho12, P', hb⟩ := hp
  have hB12 := hb.bel hB11 lg lh hB11.size
  clear P Y hP0 hb
  have P := P'
  clear P'
  simp only at P ho12
  obtain ⟨A1, c1, hv1, _, _⟩ := (ho12.byt (by decide)).form
  subst hv1
  go_wp2_with fail
  refine (done_frame ⟨1, 1, Rs.zero, false, false⟩ g h w12 P ⟨by decide, by decide, inv_zero⟩).mono ?_
  rintro e w' ⟨rfl, rfl⟩
  rw [show doneF ⟨1, 1, Rs.zero, false, false⟩ = false from rfl]
  go_wp2_with fail
  obtain ⟨w13, hw⟩ : ∃ W, W = w12.alloc (.cells #[.int .u8 99, .int .u8 100, .int .u8 101, .int .u8 102] 5 (4, 5)) := ⟨_, rfl⟩
  rw [← hw]
  have hB13 : Below w.heap.size w w13 := by rw [hw]; exact hB12.alloc hB12.size _
  replace P : PR w13 g h ⟨1, 1, Rs.zero, false, false⟩ := by rw [hw]; exact P.below ((Below.refl _ _).alloc (Nat.le_refl _) _) P.blk.lt P.lt
  have Y : Byt w13 w13.heap.size (.slice (some ⟨w12.heap.size, 0, none⟩) 4 4) [99, 100, 101, 102] := by rw [hw]; exact Byt.const w12 5 (4, 5) [99, 100, 101, 102] (by decide)
  replace ho12 : OwnB w11.heap.size w13 (.slice A1 2 c1) [97, 98] := by rw [hw]; exact ho12.alloc _
  clear hw
  refine (take_frame ⟨1, 1, Rs.zero, false, false⟩ _ _ g h w13 P ⟨by decide, by decide, inv_zero⟩ Y).mono ?_
  intro e w14 hp
  unfold TakesF at hp
  rw [take_ex2] at hp
  have hP0 := P
  obtain ⟨v14, rfl, ho14, P', hb⟩ := hp
  have hB14 := hb.bel hB13 lg lh hB13.size
  obtain ⟨vx, hx, hxx⟩ := hb
  have ho1x := (ho12.but hx (ho12.ne hP0.blk (by decide)))
  have X2 := hx.blk (hP0.ok rfl) hP0.ne.symm
  have ho1y := ho1x.but hxx (ho1x.ne X2 (by decide))
  have s1 := run_byt_string w14 _ _ _ (ho1y.byt (by decide))
  replace ho14 : OwnB w13.heap.size w14 v14 [99] := ho14
  have s2 := run_byt_string w14 _ v14 _ (ho14.byt (by decide))
  replace P' : PR w14 g h ⟨1, 0, Rs.zero, false, false⟩ := P'
  clear P hP0 ho12 ho1x ho1y hx hxx X2 Y kc
  go_wp2_with fail
  refine (done_frame ⟨1, 0, Rs.zero, false, false⟩ g h w14 P' ⟨by decide, by decide, inv_zero⟩).mono ?_
  rintro e w' ⟨rfl, rfl⟩
  rw [show doneF ⟨1, 0, Rs.zero, false, false⟩ = true from rfl]
  go_wp2_with fail
  refine (end_frame ⟨1, 0, Rs.zero, false, false⟩ g h w14 P' ⟨by decide, by decide, inv_zero⟩).mono ?_
  rintro e w99 ⟨rfl, P9, hb9⟩
  rw [show endE ⟨1, 0, Rs.zero, false, false⟩ = 0 from rfl]
  have hB99 := hb9.bel hB14 lg lh hB14.size
  go_wp2_with fail
  go_ret
  exact ⟨rfl, hB99⟩

end Go.Proofs.YtiigkacmahecaaaDoor
