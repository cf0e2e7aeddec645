/-
  One set's text; the program does something.
-/
import Derived.Test.YtfcbmajogmojbaaGreatDoorRngH
import Derived.Test.YtfcbmajogmojbaaGreatDoorBuild
namespace Go.Proofs.YtfcbmajogmojbaaGreatDoor
open Go.RowKit
set_option linter.unusedVariables false
set_option linter.unusedSimpArgs false

set_option maxRecDepth 100000 in
set_option maxHeartbeats 1000000 in
theorem fmt_2 (w : World) : Calls Tryz.prog 54 #[.int .i64 2, .int .i64 10] w fun e w' => e = .returned (.string ⟨#[50]⟩) ∧ w = w' := by
  go_enter Tryz.func54, Tryz.ntmps54
  go_wp2
  go_ret
  exact ⟨rfl, rfl⟩

set_option maxRecDepth 100000 in
set_option maxHeartbeats 1000000 in
theorem fmt_5 (w : World) : Calls Tryz.prog 54 #[.int .i64 5, .int .i64 10] w fun e w' => e = .returned (.string ⟨#[53]⟩) ∧ w = w' := by
  go_enter Tryz.func54, Tryz.ntmps54
  go_wp2
  go_ret
  exact ⟨rfl, rfl⟩

set_option maxRecDepth 100000 in
set_option maxHeartbeats 1000000 in
theorem open_25 (w : World) : Calls Tryz.prog 70 #[.agg #[.int .i64 2, .int .i64 5]] w (BoolOk false w) := by
  go_enter Tryz.func70, Tryz.ntmps70
  go_wp2
  go_ret
  exact ⟨rfl, (Below.refl _ _).alloc (Nat.le_refl _) _⟩

set_option maxRecDepth 100000 in
set_option maxHeartbeats 1000000 in
theorem text_25 (w : World) : Calls Tryz.prog 47 #[.agg #[.int .i64 2, .int .i64 5]] w fun e w' => e = .returned (.string ⟨#[50, 45, 53]⟩) ∧ Below w.heap.size w w' := by
  go_enter Tryz.func47, Tryz.ntmps47
  go_upto_region 1 with fail
  obtain ⟨w1, hw1⟩ : ∃ w1 : World, w1 = (w).alloc (.cells #[.int .i64 2, .int .i64 5] 67) := ⟨_, rfl⟩
  rw [← hw1]
  have hB1 : Below w.heap.size w w1 := by rw [hw1]; exact ((Below.refl _ _).alloc (Nat.le_refl _) _)
  have X : Blk w1 (w.heap.size) 67 #[.int .i64 2, .int .i64 5] := by rw [hw1]; exact (Blk.new _ _ _)
  clear hw1
  have cX := X.cell
  go_wp2_with fail
  refine (sright_any 2 5 w1).mono ?_
  rw [show rightB 2 5 = true from rfl]
  rintro e w2 ⟨rfl, hb2⟩
  have hB2 := hB1.trans (hb2.mono hB1.size)
  replace X := X.below hb2 X.lt
  clear cX hb2
  have cX := X.cell
  go_wp2_with fail
  refine (fmt_2 w2).mono ?_
  rintro e w' ⟨rfl, rfl⟩
  go_wp2_with fail
  refine (open_25 w2).mono ?_
  rintro e w3 ⟨rfl, hb3⟩
  have hB3 := hB2.trans (hb3.mono hB2.size)
  replace X := X.below hb3 X.lt
  clear cX hb3
  have cX := X.cell
  go_wp2_with fail
  refine (fmt_5 w3).mono ?_
  rintro e w' ⟨rfl, rfl⟩
  go_wp2_with fail
  go_ret
  exact ⟨rfl, hB3⟩

set_option maxRecDepth 100000 in
set_option maxHeartbeats 2000000 in
theorem settext_25 (v : Value) (w : World) (hr : RdL LSp w w.heap.size v [(2, 5)]) : Calls Tryz.prog 26 #[.agg #[v]] w fun e w' => e = .returned (.string ⟨#[50, 45, 53]⟩) ∧ Below w.heap.size w w' := by
  obtain ⟨A, c, hv, hlc, hc⟩ := hr.form
  have hv' : v = .slice A 1 c := hv
  subst hv'
  have HR := hide hr
  clear hr hv
  go_enter Tryz.func26, Tryz.ntmps26
  go_upto_region 1 with fail
  obtain ⟨w1, hw1⟩ : ∃ w1 : World, w1 = (w).alloc (.cells #[.slice A 1 c] 52) := ⟨_, rfl⟩
  rw [← hw1]
  have hB1 : Below w.heap.size w w1 := by rw [hw1]; exact ((Below.refl _ _).alloc (Nat.le_refl _) _)
  have SB : Blk w1 (w.heap.size) 52 #[.slice A 1 c] := by rw [hw1]; exact (Blk.new _ _ _)
  clear hw1
  have cSB := SB.cell
  have SB0 := SB
  have HB2 := hide (Bld.new w1 w1.heap.size (Nat.le_refl _))
  have hBn : Below w1.heap.size w1 (w1.alloc (.cells #[.pointer none, .slice none 0 0] 90)) := (Below.refl _ _).alloc (Nat.le_refl _) _
  have cSB2 := (SB.alloc (.cells #[.pointer none, .slice none 0 0] 90)).cell
  go_wp2_with fail
  clear cSB cSB2 SB
  go_loopw [4, 5, 13] (fun _ _ c13 wr => ∃ k : Nat, k ≤ 1 ∧ c13 = .int .i64 (k : Int) ∧ Hid (Bld w1.heap.size w1.heap.size wr (if k = 0 then [] else [50, 45, 53])) ∧ Below w1.heap.size w1 wr) (fun _ _ c13 _ => 1 - (intOf c13).toNat)
  case atStart => exact ⟨0, by omega, rfl, HB2, hBn⟩
  case round =>
    clear HB2 hBn
    obtain ⟨k, hk, rfl, HB, hb⟩ := hrel
    by_cases hlt : k < 1
    · obtain rfl : k = 0 := by omega
      obtain ⟨bs, os, hAs, hbls, ps, qs⟩ := HR.out.span 0 (by simp)
      subst hAs
      simp only [List.getElem_cons_zero] at ps qs
      have hBr : Below w.heap.size w wr := hB1.trans (hb.mono hB1.size)
      have es : wr.cell? ⟨bs, os + 0 * 2, none⟩ = some (.int .i64 2) := by rw [hBr.cell (by show bs < _; omega)]; exact ps
      have gs : wr.cell? ⟨bs, os + 0 * 2 + 1, none⟩ = some (.int .i64 5) := by rw [hBr.cell (by show bs < _; omega)]; exact qs
      rw [Nat.zero_mul, Nat.add_zero] at es gs
      clear ps qs
      go_upto_region 7 with fail
      obtain ⟨w2, hw2⟩ : ∃ W : World, W = wr.alloc (.cells #[.int .i64 2, .int .i64 5] 67) := ⟨_, rfl⟩
      first | rw [← hw2] | skip
      have X : Blk w2 wr.heap.size 67 #[.int .i64 2, .int .i64 5] := by rw [hw2]; exact Blk.new _ _ _
      have hB2 : Below w1.heap.size w1 w2 := by rw [hw2]; exact hb.alloc hb.size _
      have HB2 := HB.out.alloc (.cells #[.int .i64 2, .int .i64 5] 67)
      rw [← hw2] at HB2
      replace HB2 := hide HB2
      clear hw2 es gs HB
      have cX := X.cell
      go_wp2_with fail
      refine (text_25 w2).mono ?_
      rintro e w3 ⟨rfl, hb3⟩
      have hB3 := hB2.trans (hb3.mono hB2.size)
      have HB3 := hide (HB2.out.below hb3 (Nat.le_refl _))
      clear hb3 cX HB2
      go_wp2_with fail
      refine (write_any w1.heap.size w1.heap.size [] ⟨#[50, 45, 53]⟩ w3 HB3.out hB3.size (by decide)).mono ?_
      rintro e w4 ⟨rfl, HB4, hb4, _⟩
      have hB4 := hB3.trans hb4
      have HB5 := hide (show Bld w1.heap.size w1.heap.size w4 (if 0 + 1 = 0 then [] else [50, 45, 53]) from HB4)
      clear HB4 hb4 HB3
      go_wp2_with fail
      go_roundw
      case rel => exact ⟨0 + 1, by omega, by go_num, HB5, hB4⟩
      case measure => simp [intOf] <;> omega
    · obtain rfl : k = 1 := by omega
      go_wp2_with fail
      refine (string_any w1.heap.size w1.heap.size [50, 45, 53] wr HB.out hb.size).mono ?_
      rintro e w5 ⟨rfl, hb5⟩
      have hB5 := hB1.trans ((hb.trans hb5).mono hB1.size)
      go_wp2_with fail
      go_ret
      exact ⟨rfl, hB5⟩

theorem ofL_25 : ofL [(2, 4), (4, 5)] = [(2, 5)] := by
  have h : goodL [(2, 4), (4, 5)] = [(2, 4), (4, 5)] := by decide
  unfold ofL
  rw [h]
  simp only [List.foldl_cons, List.foldl_nil]
  have h1 : orL [] [(2, 4)] = [(2, 4)] := by unfold orL; rw [merge_nil1]; rfl
  rw [h1]
  unfold orL
  rw [merge_cons, if_pos (by decide), merge_nil1]
  rfl

set_option maxRecDepth 100000 in
set_option maxHeartbeats 2000000 in
theorem alive_any (w : World) : Calls Tryz.prog 7 #[] w (BoolOk true w) := by
  go_enter Tryz.func7, Tryz.ntmps7
  go_upto_region 1 with fail
  have B2 : Blk (w.alloc (.cells #[.int .i64 2, .int .i64 4, .int .i64 4, .int .i64 5] 67)) w.heap.size 67 #[.int .i64 2, .int .i64 4, .int .i64 4, .int .i64 5] := Blk.new _ _ _
  have R2 := hide (RdL.blk (L := LSp) (l := [(2, 4), (4, 5)]) (n := 2) B2 rfl rfl (by decide))
  go_wp2_with fail
  have hcon := rof_any _ [(2, 4), (4, 5)] _ R2.out (by decide)
  rw [ofL_25] at hcon
  refine hcon.mono ?_
  rintro e w2 ⟨v, rfl, hr, hb2⟩
  have hB2 : Below w.heap.size w w2 := ((Below.refl _ _).alloc (Nat.le_refl _) _).trans (hb2.mono (by simp))
  have HR := hide hr
  clear hcon hr hb2 B2 R2
  go_wp2_with fail
  refine (settext_25 v w2 HR.out).mono ?_
  rintro e w3 ⟨rfl, hb3⟩
  have hB3 := hB2.trans (hb3.mono hB2.size)
  go_wp2_with fail
  go_ret
  exact ⟨rfl, hB3⟩

end Go.Proofs.YtfcbmajogmojbaaGreatDoor
