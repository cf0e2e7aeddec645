/-
  What a request without conditions is told.
-/
import Derived.Test.YtfcbmajogmojbaaGreatDoorShpB
import Derived.Test.YtfcbmajogmojbaaGreatDoorGrC
import Derived.Test.YtfcbmajogmojbaaGreatDoorRegI
import Derived.Deep.CutBlock
import Derived.Deep.DeepCutAuto
namespace Go.Proofs.YtfcbmajogmojbaaGreatDoor
open Go.RowKit Go.Proofs
set_option linter.unusedVariables false
set_option linter.unusedSimpArgs false

theorem strong_ok (n : Nat) (h : n ≤ 1000000) : metaOk ⟨#[118]⟩ false (-1) (n : Int) (n : Int) 5 0 0 [] ⟨#[]⟩ = true := by
  have h1 : numsOk (-1) (n : Int) (n : Int) = true := by unfold numsOk; rw [decide_eq_true_eq]; refine ⟨by omega, by omega, by omega, by omega, by omega, by omega, ?_⟩; exact .inr rfl
  unfold metaOk
  rw [h1]
  decide +kernel
theorem someC_no : someTagC (⟨#[]⟩, false) = false := by decide +kernel
theorem check_none (k : Nat) (t : Tag) (ln : Int) : checkV k [] [] false false (-1) (-1) (⟨#[]⟩, false) t (-1) ln true = 1 := by
  simp [checkV, c1B, c2B, c3B, someC_no]
theorem strs_nil (w : World) (B : Nat) : RdStrs w B (.slice none 0 0) [] := ⟨by simp, by simp, none, 0, rfl, by simp, by omega, fun i h => by simp at h⟩

set_option maxRecDepth 100000 in
set_option maxHeartbeats 32000000 in
theorem answer_any (rhd : Bool) (ob : ByteArray) (sA : Option Addr) (sc : Nat) (sl : List Sp) (oA : Option Addr) (on oc : Nat) (w : World) (hT : Tab w) (hX : TabX w) (hr : RdL LSp w w.heap.size (.slice sA sl.length sc) sl) (hsl : sl.length ≤ 12) (hon : on ≤ 1000) :
    Calls Tryz.prog 12 #[.agg #[.bool rhd, .string ob, .slice sA sl.length sc, .slice none 0 0, .slice none 0 0, .bool false, .bool false, .int .i64 (-1), .int .i64 (-1), .string ⟨#[]⟩, .bool false], .slice oA on oc, .int .u16 3] w (AnsOk w w True (ShpQ rhd sl (on : Int) (on : Int) 1)) := by
  have HR := hide hr
  have HT := hide hT
  have HX := hide hX
  have HMO := hide (strong_ok on (by omega))
  clear hr hT hX
  go_enter Tryz.func12, Tryz.ntmps12
  go_upto_region 1 with fail
  obtain ⟨w1, hw1⟩ : ∃ w1 : World, w1 = ((w).alloc (.cells #[.bool rhd, .string ob, .slice sA sl.length sc, .slice none 0 0, .slice none 0 0, .bool false, .bool false, .int .i64 (-1), .int .i64 (-1), .string ⟨#[]⟩, .bool false] 29)).alloc (.cells #[.int .i64 0, .slice none 0 0, .slice none 0 0, .int .i64 0] 39) := ⟨_, rfl⟩
  rw [← hw1]
  have hB1 : Below w.heap.size w w1 := by rw [hw1]; exact (((Below.refl _ _).alloc (Nat.le_refl _) _).alloc (by simp; try omega) _)
  have Qb : Blk w1 (w.heap.size) 29 #[.bool rhd, .string ob, .slice sA sl.length sc, .slice none 0 0, .slice none 0 0, .bool false, .bool false, .int .i64 (-1), .int .i64 (-1), .string ⟨#[]⟩, .bool false] := by rw [hw1]; exact ((Blk.new _ _ _).alloc _)
  have Rb : Blk w1 (w.heap.size + 1) 39 #[.int .i64 0, .slice none 0 0, .slice none 0 0, .int .i64 0] := by rw [hw1]; exact (Blk.new' (by simp))
  clear hw1
  have cQb := Qb.cell
  have cRb := Rb.cell
  go_wp2_with fail
  refine (strong_any ⟨#[118]⟩ (on : Int) w1).mono ?_
  rintro e w2 ⟨rfl, hb2⟩
  replace Qb := Qb.below hb2 Qb.lt
  replace Rb := Rb.below hb2 Rb.lt
  have hB2 := hB1.trans (hb2.mono hB1.size)
  clear cQb cRb hb2 hB1
  have cQb := Qb.cell
  have cRb := Rb.cell
  go_upto_region 2 with fail
  obtain ⟨wr, hwr⟩ : ∃ W : World, W = w2.alloc (.cells #[.string ⟨#[118]⟩, .bool false, .int .i64 (-1), .int .i64 (on : Int), .int .i64 (on : Int), .int .i64 5, .int .i64 0, .int .i64 0, .slice none 0 0, .string ⟨#[]⟩, .bool true] 32) := ⟨_, rfl⟩
  rw [← hwr]
  have Mb : Blk wr w2.heap.size 32 #[.string ⟨#[118]⟩, .bool false, .int .i64 (-1), .int .i64 (on : Int), .int .i64 (on : Int), .int .i64 5, .int .i64 0, .int .i64 0, .slice none 0 0, .string ⟨#[]⟩, .bool true] := by rw [hwr]; exact Blk.new _ _ _
  replace Qb := Qb.alloc (.cells #[.string ⟨#[118]⟩, .bool false, .int .i64 (-1), .int .i64 (on : Int), .int .i64 (on : Int), .int .i64 5, .int .i64 0, .int .i64 0, .slice none 0 0, .string ⟨#[]⟩, .bool true] 32)
  replace Rb := Rb.alloc (.cells #[.string ⟨#[118]⟩, .bool false, .int .i64 (-1), .int .i64 (on : Int), .int .i64 (on : Int), .int .i64 5, .int .i64 0, .int .i64 0, .slice none 0 0, .string ⟨#[]⟩, .bool true] 32)
  rw [← hwr] at Qb Rb
  have hB4 : Below w.heap.size w wr := by rw [hwr]; exact hB2.alloc hB2.size _
  obtain ⟨mb, hmb⟩ : ∃ n, n = w2.heap.size := ⟨_, rfl⟩
  rw [← hmb] at Mb ⊢
  clear hwr hmb hB2 cQb cRb
  have HLE := hide hB4.size
  have HBW := hide (fun (W : World) (h : Below w.heap.size wr W) => hB4.trans h)
  obtain ⟨rb, hrb⟩ : ∃ n, n = w.heap.size + 1 := ⟨_, rfl⟩
  have HRL := hide (show w.heap.size ≤ rb by omega)
  rw [← hrb] at Rb ⊢
  obtain ⟨qb, hqb⟩ : ∃ n, n = w.heap.size := ⟨_, rfl⟩
  skip
  have HQ := hide Qb
  have HMt := hide Mb
  have HRb := hide Rb
  clear Qb Mb Rb hrb
  have HCV := hide (show IntKind.i64.wrap 3 = 3 from by decide +kernel)
  have HCK := hide (fun (W : World) (h : Below wr.heap.size wr W) => check_any rhd ob sA sl.length sc (.slice none 0 0) (.slice none 0 0) [] [] false false (-1) (-1) ⟨#[]⟩ false ⟨#[118]⟩ false (-1) (on : Int) (on : Int) 5 0 0 (.slice none 0 0) ⟨#[]⟩ true true W (by decide) (by decide) (RdTags.nil W _) (RdTags.nil W _))
  have HCK2 := hide (fun (W : World) (h : Below wr.heap.size wr W) => by have h9 := HCK.out W h; rw [check_none] at h9; exact h9)
  clear HCK
  have HCK := HCK2
  clear HCK2
  have HSH := hide (fun (W : World) (h : Below wr.heap.size wr W) => (show Calls Tryz.prog 8 #[.agg #[.bool rhd, .string ob, .slice sA sl.length sc, .slice none 0 0, .slice none 0 0, .bool false, .bool false, .int .i64 (-1), .int .i64 (-1), .string ⟨#[]⟩, .bool false], .agg #[.string ⟨#[118]⟩, .bool false, .int .i64 (-1), .int .i64 (on : Int), .int .i64 (on : Int), .int .i64 5, .int .i64 0, .int .i64 0, .slice none 0 0, .string ⟨#[]⟩, .bool true], .int .i64 1, .agg #[.int .i64 4, .int .i64 0, .int .i64 64, .int .i64 8, .int .i64 2, .int .i64 1, .int .i64 8, .int .i64 400, .int .i64 400, .int .i64 16], .int .i64 3] W (AnsOk W W ((on : Int) ≠ -1) (ShpQ rhd sl (on : Int) (on : Int) 1)) from shape_any rhd ob sA sc sl (.slice none 0 0) (.slice none 0 0) false false (-1) (-1) ⟨#[]⟩ false ⟨#[118]⟩ false (-1) (on : Int) (on : Int) 5 0 0 none 0 [] ⟨#[]⟩ true 1 3 (by decide) W (by decide) (by decide) (((HR.out.below hB4).mono hB4.size |>.below h).mono h.size) hsl (strs_nil W _) HMO.out ((HT.out.below hB4).below h) ((HX.out.below hB4).below h)))
  clear hB4
  obtain ⟨qb, hqb⟩ : ∃ n, n = w.heap.size := ⟨_, rfl⟩
  rw [← hqb] at HQ ⊢
  clear hqb
  refine wp_region_mem 9 [11, 12, 13, 14, 15, 16, 17, 18, 19] (by kernel_rfl) (by kernel_rfl) (fun i v W => match i with | 0 => v = .agg #[.bool rhd, .string ob, .slice sA sl.length sc, .slice none 0 0, .slice none 0 0, .bool false, .bool false, .int .i64 (-1), .int .i64 (-1), .string ⟨#[]⟩, .bool false] | 1 => v = .agg #[.string ⟨#[118]⟩, .bool false, .int .i64 (-1), .int .i64 (on : Int), .int .i64 (on : Int), .int .i64 5, .int .i64 0, .int .i64 0, .slice none 0 0, .string ⟨#[]⟩, .bool true] | 2 => v = .agg #[.bool rhd, .string ob, .slice sA sl.length sc, .slice none 0 0, .slice none 0 0, .bool false, .bool false, .int .i64 (-1), .int .i64 (-1), .string ⟨#[]⟩, .bool false] | 3 => v = .agg #[.string ⟨#[118]⟩, .bool false, .int .i64 (-1), .int .i64 (on : Int), .int .i64 (on : Int), .int .i64 5, .int .i64 0, .int .i64 0, .slice none 0 0, .string ⟨#[]⟩, .bool true] | 4 => v = .int .i64 1 | 5 => v = .agg #[.int .i64 4, .int .i64 0, .int .i64 64, .int .i64 8, .int .i64 2, .int .i64 1, .int .i64 8, .int .i64 400, .int .i64 400, .int .i64 16] | 6 => v = .int .u16 3 | 7 => v = .int .i64 3 | 8 => ∃ (sta siz : Int) (fA : Option Addr) (fn fc : Nat) (pA : Option Addr) (pc : Nat) (ps : List P3), v = .agg #[.int .i64 sta, .slice fA fn fc, .slice pA ps.length pc, .int .i64 siz] ∧ ShpQ rhd sl (on : Int) (on : Int) 1 sta siz ps ∧ OwnL LP wr.heap.size W (.slice pA ps.length pc) ps ∧ (∀ p ∈ ps, PartIn p) ∧ ps.length ≤ 1000 | _ => True) ?mono ?step ?fin ?last
  case mono =>
    intro i v w w' h hbw
    rcases i with _ | _ | _ | _ | _ | _ | _ | _ | _ | i
    · exact h
    · exact h
    · exact h
    · exact h
    · exact h
    · exact h
    · exact h
    · exact h
    · obtain ⟨sta, siz, fA, fn, fc, pA, pc, ps, h1, h2, h3, h4, h5⟩ := h; exact ⟨sta, siz, fA, fn, fc, pA, pc, ps, h1, h2, h3.below hbw (Nat.le_refl _), h4, h5⟩
    · trivial
  case step =>
    intro i o a w hin ho hS hb hd
    rcases i with _ | _ | _ | _ | _ | _ | _ | _ | _ | i
    · obtain rfl := Option.some.inj ho
      have hx : a.tmps[3]?.getD undef = .pointer (some ⟨qb, 0, none⟩) := by rw [← slot_get, slot_old hS (by decide)]; rfl
      have hc0 : w.cell? ⟨qb, 0, none⟩ = some (.bool rhd) := (HQ.out.below hb HQ.out.lt).cell 0
      have hc1 : w.cell? ⟨qb, 1, none⟩ = some (.string ob) := (HQ.out.below hb HQ.out.lt).cell 1
      have hc2 : w.cell? ⟨qb, 2, none⟩ = some (.slice sA sl.length sc) := (HQ.out.below hb HQ.out.lt).cell 2
      have hc3 : w.cell? ⟨qb, 3, none⟩ = some (.slice none 0 0) := (HQ.out.below hb HQ.out.lt).cell 3
      have hc4 : w.cell? ⟨qb, 4, none⟩ = some (.slice none 0 0) := (HQ.out.below hb HQ.out.lt).cell 4
      have hc5 : w.cell? ⟨qb, 5, none⟩ = some (.bool false) := (HQ.out.below hb HQ.out.lt).cell 5
      have hc6 : w.cell? ⟨qb, 6, none⟩ = some (.bool false) := (HQ.out.below hb HQ.out.lt).cell 6
      have hc7 : w.cell? ⟨qb, 7, none⟩ = some (.int .i64 (-1)) := (HQ.out.below hb HQ.out.lt).cell 7
      have hc8 : w.cell? ⟨qb, 8, none⟩ = some (.int .i64 (-1)) := (HQ.out.below hb HQ.out.lt).cell 8
      have hc9 : w.cell? ⟨qb, 9, none⟩ = some (.string ⟨#[]⟩) := (HQ.out.below hb HQ.out.lt).cell 9
      have hc10 : w.cell? ⟨qb, 10, none⟩ = some (.bool false) := (HQ.out.below hb HQ.out.lt).cell 10
      refine op_run (v := .agg #[.bool rhd, .string ob, .slice sA sl.length sc, .slice none 0 0, .slice none 0 0, .bool false, .bool false, .int .i64 (-1), .int .i64 (-1), .string ⟨#[]⟩, .bool false]) (w' := w) (by simp [execOp, go_sem, hx, hc0, hc1, hc2, hc3, hc4, hc5, hc6, hc7, hc8, hc9, hc10]) ?_
      exact ⟨_, rfl, Below.refl _ _, rfl⟩
    · obtain rfl := Option.some.inj ho
      have hx : a.tmps[7]?.getD undef = .pointer (some ⟨mb, 0, none⟩) := by rw [← slot_get, slot_old hS (by decide)]; rfl
      have hc0 : w.cell? ⟨mb, 0, none⟩ = some (.string ⟨#[118]⟩) := (HMt.out.below hb HMt.out.lt).cell 0
      have hc1 : w.cell? ⟨mb, 1, none⟩ = some (.bool false) := (HMt.out.below hb HMt.out.lt).cell 1
      have hc2 : w.cell? ⟨mb, 2, none⟩ = some (.int .i64 (-1)) := (HMt.out.below hb HMt.out.lt).cell 2
      have hc3 : w.cell? ⟨mb, 3, none⟩ = some (.int .i64 (on : Int)) := (HMt.out.below hb HMt.out.lt).cell 3
      have hc4 : w.cell? ⟨mb, 4, none⟩ = some (.int .i64 (on : Int)) := (HMt.out.below hb HMt.out.lt).cell 4
      have hc5 : w.cell? ⟨mb, 5, none⟩ = some (.int .i64 5) := (HMt.out.below hb HMt.out.lt).cell 5
      have hc6 : w.cell? ⟨mb, 6, none⟩ = some (.int .i64 0) := (HMt.out.below hb HMt.out.lt).cell 6
      have hc7 : w.cell? ⟨mb, 7, none⟩ = some (.int .i64 0) := (HMt.out.below hb HMt.out.lt).cell 7
      have hc8 : w.cell? ⟨mb, 8, none⟩ = some (.slice none 0 0) := (HMt.out.below hb HMt.out.lt).cell 8
      have hc9 : w.cell? ⟨mb, 9, none⟩ = some (.string ⟨#[]⟩) := (HMt.out.below hb HMt.out.lt).cell 9
      have hc10 : w.cell? ⟨mb, 10, none⟩ = some (.bool true) := (HMt.out.below hb HMt.out.lt).cell 10
      refine op_run (v := .agg #[.string ⟨#[118]⟩, .bool false, .int .i64 (-1), .int .i64 (on : Int), .int .i64 (on : Int), .int .i64 5, .int .i64 0, .int .i64 0, .slice none 0 0, .string ⟨#[]⟩, .bool true]) (w' := w) (by simp [execOp, go_sem, hx, hc0, hc1, hc2, hc3, hc4, hc5, hc6, hc7, hc8, hc9, hc10]) ?_
      exact ⟨_, rfl, Below.refl _ _, rfl⟩
    · obtain rfl := Option.some.inj ho
      have hx : a.tmps[3]?.getD undef = .pointer (some ⟨qb, 0, none⟩) := by rw [← slot_get, slot_old hS (by decide)]; rfl
      have hc0 : w.cell? ⟨qb, 0, none⟩ = some (.bool rhd) := (HQ.out.below hb HQ.out.lt).cell 0
      have hc1 : w.cell? ⟨qb, 1, none⟩ = some (.string ob) := (HQ.out.below hb HQ.out.lt).cell 1
      have hc2 : w.cell? ⟨qb, 2, none⟩ = some (.slice sA sl.length sc) := (HQ.out.below hb HQ.out.lt).cell 2
      have hc3 : w.cell? ⟨qb, 3, none⟩ = some (.slice none 0 0) := (HQ.out.below hb HQ.out.lt).cell 3
      have hc4 : w.cell? ⟨qb, 4, none⟩ = some (.slice none 0 0) := (HQ.out.below hb HQ.out.lt).cell 4
      have hc5 : w.cell? ⟨qb, 5, none⟩ = some (.bool false) := (HQ.out.below hb HQ.out.lt).cell 5
      have hc6 : w.cell? ⟨qb, 6, none⟩ = some (.bool false) := (HQ.out.below hb HQ.out.lt).cell 6
      have hc7 : w.cell? ⟨qb, 7, none⟩ = some (.int .i64 (-1)) := (HQ.out.below hb HQ.out.lt).cell 7
      have hc8 : w.cell? ⟨qb, 8, none⟩ = some (.int .i64 (-1)) := (HQ.out.below hb HQ.out.lt).cell 8
      have hc9 : w.cell? ⟨qb, 9, none⟩ = some (.string ⟨#[]⟩) := (HQ.out.below hb HQ.out.lt).cell 9
      have hc10 : w.cell? ⟨qb, 10, none⟩ = some (.bool false) := (HQ.out.below hb HQ.out.lt).cell 10
      refine op_run (v := .agg #[.bool rhd, .string ob, .slice sA sl.length sc, .slice none 0 0, .slice none 0 0, .bool false, .bool false, .int .i64 (-1), .int .i64 (-1), .string ⟨#[]⟩, .bool false]) (w' := w) (by simp [execOp, go_sem, hx, hc0, hc1, hc2, hc3, hc4, hc5, hc6, hc7, hc8, hc9, hc10]) ?_
      exact ⟨_, rfl, Below.refl _ _, rfl⟩
    · obtain rfl := Option.some.inj ho
      have hx : a.tmps[7]?.getD undef = .pointer (some ⟨mb, 0, none⟩) := by rw [← slot_get, slot_old hS (by decide)]; rfl
      have hc0 : w.cell? ⟨mb, 0, none⟩ = some (.string ⟨#[118]⟩) := (HMt.out.below hb HMt.out.lt).cell 0
      have hc1 : w.cell? ⟨mb, 1, none⟩ = some (.bool false) := (HMt.out.below hb HMt.out.lt).cell 1
      have hc2 : w.cell? ⟨mb, 2, none⟩ = some (.int .i64 (-1)) := (HMt.out.below hb HMt.out.lt).cell 2
      have hc3 : w.cell? ⟨mb, 3, none⟩ = some (.int .i64 (on : Int)) := (HMt.out.below hb HMt.out.lt).cell 3
      have hc4 : w.cell? ⟨mb, 4, none⟩ = some (.int .i64 (on : Int)) := (HMt.out.below hb HMt.out.lt).cell 4
      have hc5 : w.cell? ⟨mb, 5, none⟩ = some (.int .i64 5) := (HMt.out.below hb HMt.out.lt).cell 5
      have hc6 : w.cell? ⟨mb, 6, none⟩ = some (.int .i64 0) := (HMt.out.below hb HMt.out.lt).cell 6
      have hc7 : w.cell? ⟨mb, 7, none⟩ = some (.int .i64 0) := (HMt.out.below hb HMt.out.lt).cell 7
      have hc8 : w.cell? ⟨mb, 8, none⟩ = some (.slice none 0 0) := (HMt.out.below hb HMt.out.lt).cell 8
      have hc9 : w.cell? ⟨mb, 9, none⟩ = some (.string ⟨#[]⟩) := (HMt.out.below hb HMt.out.lt).cell 9
      have hc10 : w.cell? ⟨mb, 10, none⟩ = some (.bool true) := (HMt.out.below hb HMt.out.lt).cell 10
      refine op_run (v := .agg #[.string ⟨#[118]⟩, .bool false, .int .i64 (-1), .int .i64 (on : Int), .int .i64 (on : Int), .int .i64 5, .int .i64 0, .int .i64 0, .slice none 0 0, .string ⟨#[]⟩, .bool true]) (w' := w) (by simp [execOp, go_sem, hx, hc0, hc1, hc2, hc3, hc4, hc5, hc6, hc7, hc8, hc9, hc10]) ?_
      exact ⟨_, rfl, Below.refl _ _, rfl⟩
    · obtain rfl := Option.some.inj ho
      have dD0 := hd ⟨2, .data⟩ (by simp) rfl
      have h0 : a.tmps[13]?.getD undef = .agg #[.bool rhd, .string ob, .slice sA sl.length sc, .slice none 0 0, .slice none 0 0, .bool false, .bool false, .int .i64 (-1), .int .i64 (-1), .string ⟨#[]⟩, .bool false] := by rw [← slot_get]; exact dD0
      have dD1 := hd ⟨3, .data⟩ (by simp) rfl
      have h1 : a.tmps[14]?.getD undef = .agg #[.string ⟨#[118]⟩, .bool false, .int .i64 (-1), .int .i64 (on : Int), .int .i64 (on : Int), .int .i64 5, .int .i64 0, .int .i64 0, .slice none 0 0, .string ⟨#[]⟩, .bool true] := by rw [← slot_get]; exact dD1
      refine op_call (f := 9) (args := #[.agg #[.bool rhd, .string ob, .slice sA sl.length sc, .slice none 0 0, .slice none 0 0, .bool false, .bool false, .int .i64 (-1), .int .i64 (-1), .string ⟨#[]⟩, .bool false], .agg #[.string ⟨#[118]⟩, .bool false, .int .i64 (-1), .int .i64 (on : Int), .int .i64 (on : Int), .int .i64 5, .int .i64 0, .int .i64 0, .slice none 0 0, .string ⟨#[]⟩, .bool true], .bool true]) (by simp [execOp, go_sem, h0, h1]) (HCK.out w hb) ?_
      rintro e w' ⟨rfl, hbw⟩
      exact ⟨_, rfl, _, rfl, hbw, rfl⟩
    · obtain rfl := Option.some.inj ho
      refine op_call (f := 10) (args := #[]) (by simp [execOp, go_sem, ]) (conf_any w) ?_
      rintro e w' ⟨rfl, hbw⟩
      exact ⟨_, rfl, _, rfl, hbw, rfl⟩
    · obtain rfl := Option.some.inj ho
      have hx : a.tmps[2]?.getD undef = .int .u16 3 := by rw [← slot_get, slot_old hS (by decide)]; rfl
      refine op_run (v := .int .u16 3) (w' := w) (by simp [execOp, go_sem, hx]) ?_
      exact ⟨_, rfl, Below.refl _ _, rfl⟩
    · obtain rfl := Option.some.inj ho
      have dD0 := hd ⟨6, .data⟩ (by simp) rfl
      have h0 : a.tmps[17]?.getD undef = .int .u16 3 := by rw [← slot_get]; exact dD0
      refine op_run (v := .int .i64 3) (w' := w) (by simp [execOp, go_sem, h0, HCV.out]) ?_
      exact ⟨_, rfl, Below.refl _ _, rfl⟩
    · obtain rfl := Option.some.inj ho
      have dD0 := hd ⟨0, .data⟩ (by simp) rfl
      have h0 : a.tmps[11]?.getD undef = .agg #[.bool rhd, .string ob, .slice sA sl.length sc, .slice none 0 0, .slice none 0 0, .bool false, .bool false, .int .i64 (-1), .int .i64 (-1), .string ⟨#[]⟩, .bool false] := by rw [← slot_get]; exact dD0
      have dD1 := hd ⟨1, .data⟩ (by simp) rfl
      have h1 : a.tmps[12]?.getD undef = .agg #[.string ⟨#[118]⟩, .bool false, .int .i64 (-1), .int .i64 (on : Int), .int .i64 (on : Int), .int .i64 5, .int .i64 0, .int .i64 0, .slice none 0 0, .string ⟨#[]⟩, .bool true] := by rw [← slot_get]; exact dD1
      have dD2 := hd ⟨4, .data⟩ (by simp) rfl
      have h2 : a.tmps[15]?.getD undef = .int .i64 1 := by rw [← slot_get]; exact dD2
      have dD3 := hd ⟨5, .data⟩ (by simp) rfl
      have h3 : a.tmps[16]?.getD undef = .agg #[.int .i64 4, .int .i64 0, .int .i64 64, .int .i64 8, .int .i64 2, .int .i64 1, .int .i64 8, .int .i64 400, .int .i64 400, .int .i64 16] := by rw [← slot_get]; exact dD3
      have dD4 := hd ⟨7, .data⟩ (by simp) rfl
      have h4 : a.tmps[18]?.getD undef = .int .i64 3 := by rw [← slot_get]; exact dD4
      refine op_call (f := 8) (args := #[.agg #[.bool rhd, .string ob, .slice sA sl.length sc, .slice none 0 0, .slice none 0 0, .bool false, .bool false, .int .i64 (-1), .int .i64 (-1), .string ⟨#[]⟩, .bool false], .agg #[.string ⟨#[118]⟩, .bool false, .int .i64 (-1), .int .i64 (on : Int), .int .i64 (on : Int), .int .i64 5, .int .i64 0, .int .i64 0, .slice none 0 0, .string ⟨#[]⟩, .bool true], .int .i64 1, .agg #[.int .i64 4, .int .i64 0, .int .i64 64, .int .i64 8, .int .i64 2, .int .i64 1, .int .i64 8, .int .i64 400, .int .i64 400, .int .i64 16], .int .i64 3]) (by simp [execOp, go_sem, h0, h1, h2, h3, h4]) (HSH.out w hb) ?_
      rintro e w' ⟨sta, siz, fA, fn, fc, pA, pc, ps, rfl, hq, hO, hP, hL, hbw⟩
      exact ⟨_, rfl, _, rfl, hbw, sta, siz, fA, fn, fc, pA, pc, ps, rfl, hq, hO.mono hb.size, hP (by omega), hL⟩
    · omega
  case fin =>
    intro h; exact absurd h (by decide)
  case last =>
    intro _ o a w ho hS hb hG
    obtain rfl := Option.some.inj ho
    obtain ⟨sta, siz, fA, fn, fc, pA, pc, ps, d8, hq, hO, hP, hL⟩ := hG 8 (by decide)
    have h0 : a.tmps[6]?.getD undef = .pointer (some ⟨rb, 0, none⟩) := by rw [← slot_get, slot_old hS (by decide)]; rfl
    have h1 : a.tmps[19]?.getD undef = .agg #[.int .i64 sta, .slice fA fn fc, .slice pA ps.length pc, .int .i64 siz] := by rw [← slot_get]; exact d8
    have hRb := HRb.out.below hb HRb.out.lt
    have hc0 : w.cell? ⟨rb, 0, none⟩ = some (.int .i64 0) := hRb.cell 0
    have hc1 : w.cell? ⟨rb, 1, none⟩ = some (.slice none 0 0) := hRb.cell 1
    have hc2 : w.cell? ⟨rb, 2, none⟩ = some (.slice none 0 0) := hRb.cell 2
    have hc3 : w.cell? ⟨rb, 3, none⟩ = some (.int .i64 0) := hRb.cell 3
    have hf := hRb.frozen
    have hpo : (Value.slice pA ps.length pc).ownBlock ≠ some rb := fun e => by have h9 : wr.heap.size ≤ rb := (hO.lt _ e).1; have := HRb.out.lt; omega
    refine op_skip0 rfl (w' := ((((w.setCell ⟨rb, 0, none⟩ (.int .i64 sta)).setCell ⟨rb, 1, none⟩ (.slice fA fn fc)).setCell ⟨rb, 2, none⟩ (.slice pA ps.length pc)).setCell ⟨rb, 3, none⟩ (.int .i64 siz))) (by simp [execOp, go_sem, h0, h1, hc0, hc1, hc2, hc3, hf]) ?_
    have hl := hS.lit
    simp only [List.foldl, List.setIfInBounds_toArray, List.set_cons_zero, List.set_cons_succ] at hl
    have s19 : slot a 19 = _ := d8
    rw [s19] at hl
    generalize slot a 11 = z11 at hl
    generalize slot a 12 = z12 at hl
    generalize slot a 13 = z13 at hl
    generalize slot a 14 = z14 at hl
    generalize slot a 15 = z15 at hl
    generalize slot a 16 = z16 at hl
    generalize slot a 17 = z17 at hl
    generalize slot a 18 = z18 at hl
    subst hl
    clear hG hS
    obtain ⟨w90, hw90⟩ : ∃ W : World, W = ((((w.setCell ⟨rb, 0, none⟩ (.int .i64 sta)).setCell ⟨rb, 1, none⟩ (.slice fA fn fc)).setCell ⟨rb, 2, none⟩ (.slice pA ps.length pc)).setCell ⟨rb, 3, none⟩ (.int .i64 siz)) := ⟨_, rfl⟩
    rw [← hw90]
    have R9 : Blk w90 rb 39 #[.int .i64 sta, .slice fA fn fc, .slice pA ps.length pc, .int .i64 siz] := by rw [hw90]; exact (((hRb.set_ 0 _).set_ 1 _).set_ 2 _).set_ 3 _
    have hO9 : OwnL LP wr.heap.size w90 (.slice pA ps.length pc) ps := by rw [hw90]; exact ((((hO).far (p := ⟨rb, 0, none⟩) hpo _).far (p := ⟨rb, 1, none⟩) hpo _).far (p := ⟨rb, 2, none⟩) hpo _).far (p := ⟨rb, 3, none⟩) hpo _
    have hB9 := HBW.out w90 (by rw [hw90]; exact below_set (below_set (below_set (below_set (hb.mono HLE.out) HRL.out _) HRL.out _) HRL.out _) HRL.out _)
    have hW9 := hO9.mono HLE.out
    clear hw90 hO9 hc0 hc1 hc2 hc3 hf hRb
    have cR9 := R9.cell
    go_wp2_with fail
    refine bodyPost_ret (v := .agg #[.int .i64 sta, .slice fA fn fc, .slice pA ps.length pc, .int .i64 siz]) (by simp [results, Tryz.results12, go_sem, cR9]) rfl ?_
    exact ⟨sta, siz, fA, fn, fc, pA, pc, ps, rfl, hq, hW9, fun _ => hP, hL, hB9⟩

end Go.Proofs.YtfcbmajogmojbaaGreatDoor
