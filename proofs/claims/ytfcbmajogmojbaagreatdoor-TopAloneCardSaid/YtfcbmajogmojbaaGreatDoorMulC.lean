/-
  A range's text.
-/
import Derived.Test.YtfcbmajogmojbaaGreatDoorRngE
import Derived.Test.YtfcbmajogmojbaaGreatDoorWList
import Derived.Test.YtfcbmajogmojbaaGreatDoorGrU
import Derived.Deep.Slices
import Derived.Deep.DeepCutAuto
namespace Go.Proofs.YtfcbmajogmojbaaGreatDoor
open Go.RowKit Go.Proofs
set_option linter.unusedVariables false
set_option linter.unusedSimpArgs false

abbrev P3 := ByteArray × Int × Int
def LP : Lay P3 where
  t := 37
  e := 75
  n := 3
  bytes := 32
  enc x := [.string x.1, .int .i64 x.2.1, .int .i64 x.2.2]
  len _ := rfl
  one _ u hu := by simp at hu; rcases hu with rfl | rfl | rfl <;> rfl
  pos := by decide
  z := .agg #[.string ⟨#[]⟩, .int .i64 0, .int .i64 0]
  ht := Tryz.underlying37
  info := by kernel_rfl
  zs := rfl
def numT (n : Int) : ByteArray := ⟨(Lib.itoa n).toArray⟩
theorem numT_len {n : Int} (h0 : -9223372036854775808 ≤ n) (h1 : n ≤ 9223372036854775807) : (numT n).size ≤ 21 := by
  have := Lib.itoa_length_le n h0 h1
  show (Lib.itoa n).toArray.size ≤ 21
  simpa using this
theorem num_any (n : Int) (w : World) (h0 : -9223372036854775808 ≤ n) (h1 : n ≤ 9223372036854775807) (hT : Tab w) : Calls Tryz.prog 54 #[.int .i64 n, .int .i64 10] w fun e w' => e = .returned (.string (numT n)) ∧ Below w.heap.size w w' := fmt_any n w h0 h1 hT
/-- Some text, not empty and not long. -/
def TextSome (w : World) (e : Ending) (w' : World) : Prop := ∃ t : ByteArray, e = .returned (.string t) ∧ 1 ≤ t.size ∧ t.size ≤ 200 ∧ Below w.heap.size w w'
theorem app_size (a b : ByteArray) : (a ++ b).size = a.size + b.size := ByteArray.size_append

set_option maxRecDepth 100000 in
set_option maxHeartbeats 8000000 in
theorem content_any (a b tot : Int) (w : World) (hT : Tab w) (h0 : 0 ≤ a) (h1 : a < b) (h2 : b ≤ 1099511627776) (h3 : -1 ≤ tot) (h4 : tot ≤ 1099511627776) (h5 : tot = -1 ∨ b ≤ tot) : Calls Tryz.prog 59 #[.agg #[.int .i64 a, .int .i64 b], .int .i64 tot] w (TextSome w) := by
  have HRB := hide (show rightB a b = true from decide_eq_true (by omega))
  have g1 : (a == b) = false := by rw [beq_eq_false_iff_ne]; omega
  have g2 : (b == 4611686018427387904) = false := by rw [beq_eq_false_iff_ne]; omega
  have g3 : decide (tot < -1) = false := decide_eq_false (by omega)
  have g4 : decide (4611686018427387903 < tot) = false := decide_eq_false (by omega)
  have HT := hide hT
  clear hT
  go_enter Tryz.func59, Tryz.ntmps59
  go_upto_region 1 with fail
  obtain ⟨w1, hw1⟩ : ∃ w1 : World, w1 = (w).alloc (.cells #[.int .i64 a, .int .i64 b] 67) := ⟨_, rfl⟩
  rw [← hw1]
  have hB1 : Below w.heap.size w w1 := by rw [hw1]; exact ((Below.refl _ _).alloc (Nat.le_refl _) _)
  have X : Blk w1 (w.heap.size) 67 #[.int .i64 a, .int .i64 b] := by rw [hw1]; exact (Blk.new _ _ _)
  clear hw1
  have cX := X.cell
  go_wp2_with fail
  refine (sright_any a b w1).mono ?_
  rw [HRB.out]
  rintro e w2 ⟨rfl, hb2⟩
  replace X := X.below hb2 X.lt
  have hB2 := hB1.trans (hb2.mono hB1.size)
  clear cX hb2 hB1
  have cX := X.cell
  have l1 := numT_len (n := a) (by omega) (by omega)
  have l2 := numT_len (n := b - 1) (by omega) (by omega)
  have l3 := numT_len (n := tot) (by omega) (by omega)
  have HF := hide (fun (n : Int) (h : n = a ∨ n = b - 1) (y : Bel w2.heap.size w2) => num_any n y.w (by omega) (by omega) (HT.out.below (hB2.trans (y.h.mono hB2.size))))
  have HF3 := hide (fun (W : World) (h : Below w.heap.size w W) => num_any tot W (by omega) (by omega) (HT.out.below h))
  go_upto_region 3 with fail
  have qX : ∀ (y : Bel w2.heap.size w2) i, y.w.cell? ⟨w.heap.size, i, none⟩ = (#[.int .i64 a, .int .i64 b] : Array Value)[i]? := fun y i => (X.below y.h X.lt).cell i
  clear cX
  have k1 : ¬ 9223372036854775807 < (⟨#[98, 121, 116, 101, 115, 32]⟩ : ByteArray).size + (numT a).size := by have : (⟨#[98, 121, 116, 101, 115, 32]⟩ : ByteArray).size = 6 := rfl; omega
  refine wp_region_bel w2.heap.size (by kernel_rfl) (by kernel_rfl) ?_
  repeat (go_big_quiet_step ((go_at_call 54; exact bel_call (Nat.le_refl _) (HF.out _ (by first | exact .inl rfl | exact .inr rfl) _))))
  refine wpQuiet_nil ?_
  rintro w4 ⟨⟨_, hb4⟩, rfl⟩
  have hB4 := hB2.trans (hb4.mono hB2.size)
  replace X := X.below hb4 X.lt
  clear qX hb4 hB2
  have cX := X.cell
  obtain ⟨T, hTe⟩ : ∃ T : ByteArray, T = ⟨#[98, 121, 116, 101, 115, 32]⟩ ++ numT a ++ ⟨#[45]⟩ ++ numT (b - 1) ++ ⟨#[47]⟩ := ⟨_, rfl⟩
  have hT1 : 1 ≤ T.size ∧ T.size ≤ 100 := by rw [hTe]; simp only [app_size]; have e1 : (⟨#[98, 121, 116, 101, 115, 32]⟩ : ByteArray).size = 6 := rfl; have e2 : (⟨#[45]⟩ : ByteArray).size = 1 := rfl; have e3 : (⟨#[47]⟩ : ByteArray).size = 1 := rfl; omega
  rw [← hTe]
  obtain ⟨hT1, hT2⟩ := hT1
  clear hTe k1 l1 l2 HF
  by_cases ht : tot = -1
  · subst ht
    go_wp2_with fail
    go_ret
    exact ⟨_, rfl, by rw [app_size]; have e1 : (⟨#[42]⟩ : ByteArray).size = 1 := rfl; omega, by rw [app_size]; have e1 : (⟨#[42]⟩ : ByteArray).size = 1 := rfl; omega, hB4⟩
  · have g5 : (tot == -1) = false := by rw [beq_eq_false_iff_ne]; exact ht
    have g6 : decide (tot < b) = false := decide_eq_false (by omega)
    go_wp2_with fail
    refine (HF3.out w4 hB4).mono ?_
    rintro e w5 ⟨rfl, hb5⟩
    go_wp2_with fail
    go_ret
    exact ⟨_, rfl, by rw [app_size]; omega, by rw [app_size]; omega, hB4.trans (hb5.mono hB4.size)⟩

end Go.Proofs.YtfcbmajogmojbaaGreatDoor
