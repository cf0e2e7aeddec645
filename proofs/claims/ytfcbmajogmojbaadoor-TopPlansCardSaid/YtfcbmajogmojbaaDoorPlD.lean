/-
  What is checked ahead of a plan; what a fetch wastes.
-/
import Derived.Test.YtfcbmajogmojbaaDoorPlC
namespace Go.Proofs.YtfcbmajogmojbaaDoor
open Go.RowKit Go.Shelf
set_option linter.unusedVariables false
set_option linter.unusedSimpArgs false

theorem first_empty (v : Value) (w : World) (h : RdL LSp w w.heap.size v []) : Calls Tryd.prog 38 #[.agg #[v], .int .i64 0] w fun e w' => e = .returned (.tuple #[.agg #[.int .i64 0, .int .i64 0], .bool false]) ∧ Below w.heap.size w w' := first_any v [] 0 w h trivial
theorem ok_rightB {s : Sp} (h : okS s) : rightB s.1 s.2 = true := by
  unfold okS at h
  unfold rightB
  simp; omega

def CheckOk (r : List Sp) (w : World) (e : Ending) (w' : World) : Prop := ∃ v, e = .returned (.tuple #[.agg #[v], .int .i64 0]) ∧ RdL LSp w' w'.heap.size v r ∧ Below w.heap.size w w'

set_option maxRecDepth 100000 in
set_option maxHeartbeats 4000000 in
theorem check_any (v u : Value) (g f : List Sp) (h : PlanOk g f) (w : World) (hr : RdL LSp w w.heap.size v g) (hs : RdL LSp w w.heap.size u f) : Calls Tryd.prog 37 #[.agg #[v], .agg #[u], .int .i64 120, .agg #[.int .i64 4, .int .i64 0, .int .i64 64, .int .i64 8, .int .i64 2, .int .i64 1, .int .i64 8, .int .i64 400, .int .i64 400, .int .i64 16]] w (CheckOk (wideL g) w) := by
  obtain ⟨A, c, rfl, hlc, hc⟩ := hr.form
  obtain ⟨A2, c2, rfl, hlc2, hc2⟩ := hs.form
  have HG := hide hr
  have HF := hide hs
  clear hr hs hlc hc hlc2 hc2
  go_enter Tryd.func37, Tryd.ntmps37
  go_upto_region 1 with fail
  obtain ⟨w1, hw1⟩ : ∃ w1 : World, w1 = ((((w).alloc (.cells #[.slice A g.length c] 28)).alloc (.cells #[.slice A2 f.length c2] 28)).alloc (.cells #[.int .i64 4, .int .i64 0, .int .i64 64, .int .i64 8, .int .i64 2, .int .i64 1, .int .i64 8, .int .i64 400, .int .i64 400, .int .i64 16] 47)).alloc (.cells #[.slice none 0 0] 28) := ⟨_, rfl⟩
  rw [← hw1]
  have hB1 : Below w.heap.size w w1 := by rw [hw1]; exact (((((Below.refl _ _).alloc (Nat.le_refl _) _).alloc (by simp; try omega) _).alloc (by simp; try omega) _).alloc (by simp; try omega) _)
  have G : Blk w1 (w.heap.size) 28 #[.slice A g.length c] := by rw [hw1]; exact ((((Blk.new _ _ _).alloc _).alloc _).alloc _)
  have E : Blk w1 (w.heap.size + 1) 28 #[.slice A2 f.length c2] := by rw [hw1]; exact (((Blk.new' (by simp)).alloc _).alloc _)
  have C : Blk w1 (w.heap.size + 2) 47 #[.int .i64 4, .int .i64 0, .int .i64 64, .int .i64 8, .int .i64 2, .int .i64 1, .int .i64 8, .int .i64 400, .int .i64 400, .int .i64 16] := by rw [hw1]; exact ((Blk.new' (by simp)).alloc _)
  have Z : Blk w1 (w.heap.size + 3) 28 #[.slice none 0 0] := by rw [hw1]; exact (Blk.new' (by simp))
  clear hw1
  have cG := G.cell
  have cE := E.cell
  have cC := C.cell
  have cZ := Z.cell
  go_wp2_with fail
  refine (measures_4 w1).mono ?_
  rintro e w' ⟨rfl, rfl⟩
  have HG1 := hide ((HG.out.below hB1).mono hB1.size)
  go_wp2_with fail
  refine (units_any _ g f h w1 HG1.out).mono ?_
  rintro e w2 ⟨v2, rfl, h2, hb2⟩
  obtain ⟨A3, c3, hv2, _, _⟩ := h2.form
  subst hv2
  have H2 := hide h2
  have hB2 := hB1.trans (hb2.mono hB1.size)
  replace E := E.below hb2 E.lt
  replace C := C.below hb2 C.lt
  replace Z := Z.below hb2 Z.lt
  clear cG cE cC cZ G h2 HG1 hb2
  go_upto_region 4 with fail
  obtain ⟨w3, hw3⟩ : ∃ W : World, W = w2.alloc (.cells #[.slice A3 (wideL g).length c3] 28) := ⟨_, rfl⟩
  first | rw [← hw3] | skip
  obtain ⟨gw, hgw⟩ : ∃ n, n = w2.heap.size := ⟨_, rfl⟩
  have hgwE : w.heap.size ≤ gw := by have := hB2.size; omega
  have X : Blk w3 gw 28 #[.slice A3 (wideL g).length c3] := by rw [hw3, hgw]; exact Blk.new _ _ _
  have hb3 : Below w2.heap.size w2 w3 := by rw [hw3]; exact (Below.refl _ _).alloc (Nat.le_refl _) _
  have hgz : w.heap.size + 3 ≠ gw := by have := Z.lt; omega
  rw [← hgw]
  clear hw3 hgw
  have hB3 := hB2.trans (hb3.mono hB2.size)
  replace E := E.below hb3 E.lt
  replace C := C.below hb3 C.lt
  replace Z := Z.below hb3 Z.lt
  have H3 := hide ((H2.out.below hb3).mono hb3.size)
  have HF3 := hide ((HF.out.below hB3).mono hB3.size)
  clear hb3 H2 hB2
  have cE := E.cell
  have cX := X.cell
  have hl1 : (wideL g).length ≤ 1000 := by have := h.wset.len; omega
  have hl2 : f.length ≤ 1000 := by have := h.sf.len; omega
  go_wp2_with fail
  refine (less_any _ _ (wideL g) f w3 H3.out HF3.out hl1 hl2).mono ?_
  rw [h.wless]
  rintro e w4 ⟨v4, rfl, h4, hb4⟩
  obtain ⟨A4, c4, hv4, _, _⟩ := h4.form
  subst hv4
  have H4 := hide h4
  have hB4 := hB3.trans (hb4.mono hB3.size)
  replace Z := Z.below hb4 Z.lt
  replace X := X.below hb4 X.lt
  have H5 := hide ((H3.out.below hb4).mono hb4.size)
  clear cE cX E h4 hb4 hB3 H3 HF3
  go_wp2_with fail
  refine (first_empty _ w4 H4.out).mono ?_
  rintro e w5 ⟨rfl, hb5⟩
  have hB5 := hB4.trans (hb5.mono hB4.size)
  replace Z := Z.below hb5 Z.lt
  replace X := X.below hb5 X.lt
  have H6 := hide ((H5.out.below hb5).mono hb5.size)
  clear hb5 hB4 H5 H4
  have cX := (X.alloc (.cells #[.int .i64 0, .int .i64 0] 31)).cell
  have fZ := (Z.alloc (.cells #[.int .i64 0, .int .i64 0] 31)).frozen
  have cZ := (Z.alloc (.cells #[.int .i64 0, .int .i64 0] 31)).cell
  have lZ := (Z.alloc (.cells #[.int .i64 0, .int .i64 0] 31)).lt
  have Z9 := hide ((Z.alloc (.cells #[.int .i64 0, .int .i64 0] 31)).set_ 0 (.slice A3 (wideL g).length c3))
  have HR9 := hide (rd_setcell (V' := .slice A3 (wideL g).length c3) ((H6.out.below ((Below.refl _ w5).alloc (Nat.le_refl _) (.cells #[.int .i64 0, .int .i64 0] 31))).mono (by simp)) (Z.alloc (.cells #[.int .i64 0, .int .i64 0] 31)) (fun z e => by cases e))
  have HB9 := hide (below_set (hB5.alloc hB5.size (.cells #[.int .i64 0, .int .i64 0] 31)) (g := w.heap.size + 3) (i := 0) (by omega) (.slice A3 (wideL g).length c3))
  go_wp2_with fail
  have c9 := Z9.out.cell
  refine bodyPost_ret (v := .tuple #[.agg #[.slice A3 (wideL g).length c3], .int .i64 0]) (by simp [results, Tryd.results37, go_sem, c9]) rfl ?_
  exact ⟨_, rfl, HR9.out.mono (KeepsWalks.setCell _ _ _).size, HB9.out⟩

set_option maxRecDepth 100000 in
set_option maxHeartbeats 4000000 in
theorem within_yes (a b : Int) (h0 : 0 ≤ a) (hab : a < b) (hb : b ≤ 120) (w : World) : Calls Tryd.prog 41 #[.agg #[.int .i64 a, .int .i64 b], .agg #[.int .i64 0, .int .i64 120]] w (BoolOk true w) := by
  have hne : (a == b) = false := by simp; omega
  have hle0 : decide (0 ≤ a) = true := decide_eq_true h0
  have hleb : decide (b ≤ 120) = true := decide_eq_true hb
  have HR1 := hide (show rightB a b = true by unfold rightB; simp; omega)
  go_enter Tryd.func41, Tryd.ntmps41
  go_upto_region 1 with fail
  obtain ⟨w1, hw1⟩ : ∃ w1 : World, w1 = ((w).alloc (.cells #[.int .i64 a, .int .i64 b] 31)).alloc (.cells #[.int .i64 0, .int .i64 120] 31) := ⟨_, rfl⟩
  rw [← hw1]
  have hB1 : Below w.heap.size w w1 := by rw [hw1]; exact (((Below.refl _ _).alloc (Nat.le_refl _) _).alloc (by simp; try omega) _)
  have X : Blk w1 (w.heap.size) 31 #[.int .i64 a, .int .i64 b] := by rw [hw1]; exact ((Blk.new _ _ _).alloc _)
  have Y : Blk w1 (w.heap.size + 1) 31 #[.int .i64 0, .int .i64 120] := by rw [hw1]; exact (Blk.new' (by simp))
  clear hw1
  have cX := X.cell
  have cY := Y.cell
  go_wp2_with fail
  refine (sright_any a b w1).mono ?_
  rw [HR1.out]
  rintro e w2 ⟨rfl, hb2⟩
  have hB2 := hB1.trans (hb2.mono hB1.size)
  replace X := X.below hb2 X.lt
  replace Y := Y.below hb2 Y.lt
  clear cX cY hb2
  have cX := X.cell
  have cY := Y.cell
  go_wp2_with fail
  refine (sright_any 0 120 w2).mono ?_
  rw [show rightB 0 120 = true from rfl]
  rintro e w3 ⟨rfl, hb3⟩
  have hB3 := hB2.trans (hb3.mono hB2.size)
  replace X := X.below hb3 X.lt
  replace Y := Y.below hb3 Y.lt
  clear cX cY hb3
  have cX := X.cell
  have cY := Y.cell
  go_wp2_with fail
  go_ret
  exact ⟨rfl, hB3⟩

theorem len_empty (v : Value) (w : World) (h : RdL LSp w w.heap.size v []) : Calls Tryd.prog 20 #[.agg #[v]] w fun e w' => e = .returned (.int .i64 0) ∧ Below w.heap.size w w' := slen_any v [] w h trivial (fun x h => by cases h)

set_option maxRecDepth 100000 in
set_option maxHeartbeats 4000000 in
theorem waste_none (v : Value) (a b : Int) (wd : List Sp) (w : World) (hr : RdL LSp w w.heap.size v wd) (hw0 : lessL (ofL [(a, b)]) wd = []) (hwl : wd.length ≤ 120) : Calls Tryd.prog 43 #[.agg #[.int .i64 a, .int .i64 b], .agg #[v]] w fun e w' => e = .returned (.int .i64 0) ∧ Below w.heap.size w w' := by
  obtain ⟨A, c, rfl, hlc, hc⟩ := hr.form
  have HW := hide hr
  have HWL := hide hw0
  clear hr hw0 hlc hc
  go_enter Tryd.func43, Tryd.ntmps43
  go_upto_region 1 with fail
  obtain ⟨w1, hw1⟩ : ∃ w1 : World, w1 = ((w).alloc (.cells #[.int .i64 a, .int .i64 b] 31)).alloc (.cells #[.slice A wd.length c] 28) := ⟨_, rfl⟩
  rw [← hw1]
  have hB1 : Below w.heap.size w w1 := by rw [hw1]; exact (((Below.refl _ _).alloc (Nat.le_refl _) _).alloc (by simp; try omega) _)
  have X : Blk w1 (w.heap.size) 31 #[.int .i64 a, .int .i64 b] := by rw [hw1]; exact ((Blk.new _ _ _).alloc _)
  have Y : Blk w1 (w.heap.size + 1) 28 #[.slice A wd.length c] := by rw [hw1]; exact (Blk.new' (by simp))
  clear hw1
  have cX := X.cell
  have cY := Y.cell
  have HW1 := hide ((HW.out.below hB1).mono hB1.size)
  have hl0 : [(a, b)].length ≤ 1000000 := by simp
  have hl1 : (ofL [(a, b)]).length ≤ 1000 := by have := ofL_len [(a, b)]; simp at this; omega
  have hl2 : wd.length ≤ 1000 := by omega
  have R5 := hide (show RdL LSp (w1.drew.alloc (.cells #[.int .i64 a, .int .i64 b] 31)) (w1.drew.alloc (.cells #[.int .i64 a, .int .i64 b] 31)).heap.size (.slice (some ⟨w1.heap.size, 0, none⟩) 1 1) [(a, b)] from RdL.one_ (L := LSp) (x := (a, b)) (Blk.new w1.drew 31 #[.int .i64 a, .int .i64 b]) rfl)
  have hb15 : ∀ w5 : World, Below (w1.drew.alloc (.cells #[.int .i64 a, .int .i64 b] 31)).heap.size (w1.drew.alloc (.cells #[.int .i64 a, .int .i64 b] 31)) w5 → Below w1.heap.size w1 w5 := fun w5 hb => below_drew (((Below.refl _ w1.drew).alloc (Nat.le_refl _) _).trans (hb.mono (by simp)))
  have cX1 := (X.alloc (.cells #[.int .i64 a, .int .i64 b] 31)).cell
  have cY1 := (Y.alloc (.cells #[.int .i64 a, .int .i64 b] 31)).cell
  go_region_with (first | (go_at_call 7; refine (of_any _ [(a, b)] _ R5.out hl0).mono ?_; rintro e w5 ⟨v5, rfl, h5, hb5⟩; obtain ⟨A5, c5, hv5, -, -⟩ := h5.form; subst hv5; have H5 := hide h5; clear h5; have hb5 := hb15 _ hb5; have cY5 := (Y.below hb5 Y.lt).cell; have HW5 := hide ((HW1.out.below hb5).mono hb5.size)) | (go_at_call 8; refine (less_any _ _ (ofL [(a, b)]) wd w5 H5.out HW5.out hl1 hl2).mono ?_; rw [HWL.out]; rintro e w6 ⟨v6, rfl, h6, hb6⟩; obtain ⟨A6, c6, hv6, -, -⟩ := h6.form; subst hv6; have H6 := hide h6; clear h6) | (go_at_call 20; refine (len_empty _ w6 H6.out).mono ?_; rintro e w7 ⟨rfl, hb7⟩))
  all_goals (go_wp2_with fail; go_ret; exact ⟨rfl, hB1.trans ((hb5.trans ((hb6.trans (hb7.mono hb6.size)).mono hb5.size)).mono hB1.size)⟩)

end Go.Proofs.YtfcbmajogmojbaaDoor
