/-
  The parts of an answer: their size, and their spans.
-/
import Derived.Test.YtfcbmajogmojbaaGreatDoorMulC
import Derived.Test.YtfcbmajogmojbaaGreatDoorGrS
import Derived.Deep.DeepCutAuto
namespace Go.Proofs.YtfcbmajogmojbaaGreatDoor
open Go.RowKit Go.Proofs
set_option linter.unusedVariables false
set_option linter.unusedSimpArgs false

/-- A part that may be: a text that isn't too long, or bytes. -/
def PartIn (p : P3) : Prop := p.1.size ≤ 1000 ∧ 0 ≤ p.2.1 ∧ p.2.1 ≤ p.2.2 ∧ p.2.2 ≤ 1099511627776
def spanP (p : P3) : Option Sp := if p.1.size = 0 then some (p.2.1, p.2.2) else none
/-- The spans of parts. -/
def spansP (l : List P3) : List Sp := l.filterMap spanP
theorem spanP_no {x : ByteArray} {a b : Int} (h : ¬ x = ⟨#[]⟩) : spanP (x, a, b) = none := by
  unfold spanP
  rw [if_neg]
  intro e
  apply h
  exact ByteArray.ext (Array.eq_empty_of_size_eq_zero e)
theorem spanP_yes {a b : Int} : spanP (⟨#[]⟩, a, b) = some (a, b) := rfl
theorem spansP_app (l m : List P3) : spansP (l ++ m) = spansP l ++ spansP m := List.filterMap_append ..
theorem spansP_none {l : List P3} {k : Nat} (h : k < l.length) (hx : spanP l[k] = none) : spansP (l.take (k + 1)) = spansP (l.take k) := by
  rw [List.take_succ_eq_append_getElem h, spansP_app]
  simp [spansP, hx]
theorem spansP_some {l : List P3} {k : Nat} {x : Sp} (h : k < l.length) (hx : spanP l[k] = some x) : spansP (l.take (k + 1)) = spansP (l.take k) ++ [x] := by
  rw [List.take_succ_eq_append_getElem h, spansP_app]
  simp [spansP, hx]
theorem spansP_len (l : List P3) : (spansP l).length ≤ l.length := List.length_filterMap_le ..
def SizeOk (w : World) (e : Ending) (w' : World) : Prop := ∃ n : Int, e = .returned (.int .i64 n) ∧ Below w.heap.size w w'

set_option maxRecDepth 100000 in
set_option maxHeartbeats 1000000 in
theorem sopen_no (a b : Int) (w : World) (h : b ≤ 1099511627776) : Calls Tryz.prog 70 #[.agg #[.int .i64 a, .int .i64 b]] w (BoolOk false w) := by
  have g2 : (b == 4611686018427387904) = false := by rw [beq_eq_false_iff_ne]; omega
  go_enter Tryz.func70, Tryz.ntmps70
  go_wp2
  go_ret
  exact ⟨rfl, (Below.refl _ _).alloc (Nat.le_refl _) _⟩

set_option maxRecDepth 100000 in
set_option maxHeartbeats 1000000 in
theorem slen1_any (a b : Int) (w : World) (h0 : 0 ≤ a) (h1 : a ≤ b) (h2 : b ≤ 1099511627776) : Calls Tryz.prog 87 #[.agg #[.int .i64 a, .int .i64 b]] w fun e w' => e = .returned (.int .i64 (b - a)) ∧ Below w.heap.size w w' := by
  have HRB := hide (show rightB a b = true from decide_eq_true (by omega))
  go_enter Tryz.func87, Tryz.ntmps87
  go_upto_region 1 with fail
  obtain ⟨w1, hw1⟩ : ∃ w1 : World, w1 = (w).alloc (.cells #[.int .i64 a, .int .i64 b] 67) := ⟨_, rfl⟩
  rw [← hw1]
  have hB1 : Below w.heap.size w w1 := by rw [hw1]; exact ((Below.refl _ _).alloc (Nat.le_refl _) _)
  have X : Blk w1 (w.heap.size) 67 #[.int .i64 a, .int .i64 b] := by rw [hw1]; exact (Blk.new _ _ _)
  clear hw1
  have cX := X.cell
  go_wp2_with fail
  refine (sright_any a b w1).mono ?_
  rw [HRB.out]
  rintro e w2 ⟨rfl, hb2⟩
  replace X := X.below hb2 X.lt
  have hB2 := hB1.trans (hb2.mono hB1.size)
  clear cX hb2 hB1
  have cX := X.cell
  go_wp2_with fail
  refine (sopen_no a b w2 h2).mono ?_
  rintro e w3 ⟨rfl, hb3⟩
  replace X := X.below hb3 X.lt
  have hB3 := hB2.trans (hb3.mono hB2.size)
  clear cX hb3 hB2
  have cX := X.cell
  go_wp2_with fail
  go_ret
  exact ⟨rfl, hB3⟩

set_option maxRecDepth 100000 in
set_option maxHeartbeats 8000000 in
theorem size_any (v : Value) (l : List P3) (w : World) (hr : RdL LP w w.heap.size v l) (hll : l.length ≤ 1000) (hp : ∀ p ∈ l, PartIn p) : Calls Tryz.prog 62 #[v] w (SizeOk w) := by
  obtain ⟨A, c, rfl, hlc, hc⟩ := hr.form
  have HR := hide hr
  have HP := hide hp
  clear hr hp
  go_enter Tryz.func62, Tryz.ntmps62
  go_wp2_with fail
  go_loopw [3, 5, 8] (fun c3 _ c8 wr => ∃ (k : Nat) (s : Int), k ≤ l.length ∧ c8 = .int .i64 (k : Int) ∧ c3 = .int .i64 s ∧ 0 ≤ s ∧ s ≤ (k : Int) * 1099511627776 ∧ Below w.heap.size w wr) (fun _ _ c8 _ => l.length - (intOf c8).toNat)
  case atStart => exact ⟨0, 0, Nat.zero_le _, rfl, rfl, by omega, by omega, Below.refl _ _⟩
  case round =>
    obtain ⟨k, s, hk, rfl, rfl, hs0, hs1, hb⟩ := hrel
    by_cases hlt : k < l.length
    · obtain ⟨b0, o0, hA, hbl, hcell⟩ := HR.out.at_ k hlt
      subst hA
      obtain ⟨x, xa, xb, hx⟩ : ∃ (a : ByteArray) (b c : Int), l[k] = (a, b, c) := ⟨_, _, _, rfl⟩
      have hin := HP.out l[k] (List.getElem_mem hlt)
      rw [hx] at hcell hin
      have e0 : wr.cell? ⟨b0, o0 + k * 3, none⟩ = some (.string x) := by rw [hb.cell (by show b0 < _; omega)]; simpa [LP] using hcell 0 _ rfl
      have e1 : wr.cell? ⟨b0, o0 + k * 3 + 1, none⟩ = some (.int .i64 xa) := by rw [hb.cell (by show b0 < _; omega)]; simpa [LP] using hcell 1 _ rfl
      have e2 : wr.cell? ⟨b0, o0 + k * 3 + 2, none⟩ = some (.int .i64 xb) := by rw [hb.cell (by show b0 < _; omega)]; simpa [LP] using hcell 2 _ rfl
      obtain ⟨hi1, hi2, hi3, hi4⟩ : x.size ≤ 1000 ∧ 0 ≤ xa ∧ xa ≤ xb ∧ xb ≤ 1099511627776 := hin
      clear hcell
      clear hx
      go_upto_region 6 with fail
      obtain ⟨w2, hw2⟩ : ∃ W : World, W = wr.alloc (.cells #[.string x, .int .i64 xa, .int .i64 xb] 75) := ⟨_, rfl⟩
      first | rw [← hw2] | skip
      have X : Blk w2 wr.heap.size 75 #[.string x, .int .i64 xa, .int .i64 xb] := by rw [hw2]; exact Blk.new _ _ _
      have hB2 : Below w.heap.size w w2 := by rw [hw2]; exact hb.alloc hb.size _
      obtain ⟨xbk, hxb⟩ : ∃ n, n = wr.heap.size := ⟨_, rfl⟩
      rw [← hxb] at X ⊢
      clear hw2 e0 e1 e2 hb hxb
      have cX := X.cell
      by_cases hm : x = ⟨#[]⟩
      · subst hm
        have HRB := hide (show rightB xa xb = true from decide_eq_true (by omega))
        have g2 : (xb == 4611686018427387904) = false := by rw [beq_eq_false_iff_ne]; omega
        go_wp2_with fail
        refine (sright_any xa xb w2).mono ?_
        rw [HRB.out]
        rintro e w4 ⟨rfl, hb4⟩
        replace X := X.below hb4 X.lt
        have hB4 := hB2.trans (hb4.mono hB2.size)
        clear cX hb4 hB2
        have cX := X.cell
        go_wp2_with fail
        refine (slen1_any xa xb w4 hi2 hi3 hi4).mono ?_
        rintro e w5 ⟨rfl, hb5⟩
        have hB5 := hB4.trans (hb5.mono hB4.size)
        clear cX hb5 hB4
        go_wp2_with fail
        go_roundw
        case rel => exact ⟨k + 1, s + (xb - xa), by omega, by go_num, rfl, by omega, by omega, hB5⟩
        case measure => simp [intOf] <;> omega
      · have e0 := empty_no hm
        have e00 := empty_no' hm
        go_wp2_with fail
        go_roundw
        case rel => exact ⟨k + 1, s + (x.size : Int), by omega, by go_num, rfl, by omega, by omega, hB2⟩
        case measure => simp [intOf] <;> omega
    · go_wp2_with fail
      go_ret
      exact ⟨_, rfl, hb⟩

set_option maxRecDepth 100000 in
set_option maxHeartbeats 8000000 in
theorem aspans_any (sta siz : Int) (fA : Option Addr) (fn fc : Nat) (v : Value) (l : List P3) (w : World) (hr : RdL LP w w.heap.size v l) (hll : l.length ≤ 1000) (hp : ∀ p ∈ l, PartIn p) : Calls Tryz.prog 15 #[.agg #[.int .i64 sta, .slice fA fn fc, v, .int .i64 siz]] w (SpansOk (spansP l) w) := by
  obtain ⟨A, c, rfl, hlc, hc⟩ := hr.form
  have HR := hide hr
  have HP := hide hp
  clear hr hp
  go_enter Tryz.func15, Tryz.ntmps15
  go_upto_region 1 with fail
  obtain ⟨w1, hw1⟩ : ∃ w1 : World, w1 = (w).alloc (.cells #[.int .i64 sta, .slice fA fn fc, .slice A l.length c, .int .i64 siz] 39) := ⟨_, rfl⟩
  rw [← hw1]
  have hB1 : Below w.heap.size w w1 := by rw [hw1]; exact ((Below.refl _ _).alloc (Nat.le_refl _) _)
  have Y : Blk w1 (w.heap.size) 39 #[.int .i64 sta, .slice fA fn fc, .slice A l.length c, .int .i64 siz] := by rw [hw1]; exact (Blk.new _ _ _)
  clear hw1
  have cY := Y.cell
  go_wp2_with fail
  clear cY Y
  go_loopw [3, 5, 9] (fun c3 _ c9 wr => ∃ (k : Nat) (V : Value), k ≤ l.length ∧ V = c3 ∧ c9 = .int .i64 (k : Int) ∧ Hid (OwnL LSp w1.heap.size wr V (spansP (l.take k))) ∧ Below w1.heap.size w1 wr) (fun _ _ c9 _ => l.length - (intOf c9).toNat)
  case atStart => exact ⟨0, _, Nat.zero_le _, rfl, rfl, OwnL.nil _ _ _, Below.refl _ _⟩
  case round =>
    obtain ⟨k, V, hk, rfl, rfl, HO, hb⟩ := hrel
    have hBr : Below w.heap.size w wr := hB1.trans (hb.mono hB1.size)
    by_cases hlt : k < l.length
    · obtain ⟨b0, o0, hA, hbl, hcell⟩ := HR.out.at_ k hlt
      subst hA
      obtain ⟨x, xa, xb, hx⟩ : ∃ (a : ByteArray) (b c : Int), l[k] = (a, b, c) := ⟨_, _, _, rfl⟩
      have hin := HP.out l[k] (List.getElem_mem hlt)
      rw [hx] at hcell hin
      have e0 : wr.cell? ⟨b0, o0 + k * 3, none⟩ = some (.string x) := by rw [hBr.cell (by show b0 < _; omega)]; simpa [LP] using hcell 0 _ rfl
      have e1 : wr.cell? ⟨b0, o0 + k * 3 + 1, none⟩ = some (.int .i64 xa) := by rw [hBr.cell (by show b0 < _; omega)]; simpa [LP] using hcell 1 _ rfl
      have e2 : wr.cell? ⟨b0, o0 + k * 3 + 2, none⟩ = some (.int .i64 xb) := by rw [hBr.cell (by show b0 < _; omega)]; simpa [LP] using hcell 2 _ rfl
      obtain ⟨hi1, hi2, hi3, hi4⟩ : x.size ≤ 1000 ∧ 0 ≤ xa ∧ xa ≤ xb ∧ xb ≤ 1099511627776 := hin
      clear hcell
      have HX := hide hx
      clear hx hBr
      have hgl := spansP_len (l.take k)
      rw [List.length_take] at hgl
      go_upto_region 5 with fail
      obtain ⟨w2, hw2⟩ : ∃ W : World, W = wr.alloc (.cells #[.string x, .int .i64 xa, .int .i64 xb] 75) := ⟨_, rfl⟩
      first | rw [← hw2] | skip
      have X : Blk w2 wr.heap.size 75 #[.string x, .int .i64 xa, .int .i64 xb] := by rw [hw2]; exact Blk.new _ _ _
      have hB2 : Below w1.heap.size w1 w2 := by rw [hw2]; exact hb.alloc hb.size _
      have O5 : OwnL LSp w1.heap.size w2 V (spansP (l.take k)) := by rw [hw2]; exact HO.out.alloc _
      obtain ⟨xbk, hxb⟩ : ∃ n, n = wr.heap.size := ⟨_, rfl⟩
      rw [← hxb] at X ⊢
      clear hw2 e0 e1 e2 hb hxb HO
      have cX := X.cell
      by_cases hm : x = ⟨#[]⟩
      · subst hm
        have HE := hide (show spansP (l.take (k + 1)) = spansP (l.take k) ++ [(xa, xb)] from spansP_some hlt (by rw [HX.out]; exact spanP_yes))
        have HL9 := hide (show (spansP (l.take k)).length + [(xa, xb)].length ≤ 1000000000 by rw [List.length_singleton]; omega)
        have hz1 := hB2.size
        have R5 : RdL LSp (w2.alloc (.cells #[.int .i64 xa, .int .i64 xb] 67)) (w2.heap.size + 1) (.slice (some ⟨w2.heap.size, 0, none⟩) 1 1) [(xa, xb)] := by
          have := RdL.one_ (L := LSp) (x := (xa, xb)) (Blk.new w2 67 #[.int .i64 xa, .int .i64 xb]) rfl
          simpa using this
        go_wp2_with (at_builtin; refine wpList_appL LSp w1 (by rfl) (.tmp 16) (.tmp 19) _ _ (by rfl) rfl rfl w1.heap.size _ _ (by rfl) (O5.alloc _) (hB2.alloc hB2.size _) (by simp; omega) _ [(xa, xb)] _ (by rfl) R5 (by decide) HL9.out ?_)
        intro v7 w7 O7 hB7 _ _
        rw [← HE.out] at O7
        have HJ := hide O7
        clear O7 R5 O5
        go_wp2_with fail
        go_roundw
        case rel => exact ⟨k + 1, _, by omega, rfl, by go_num, HJ, hB7⟩
        case measure => simp [intOf] <;> omega
      · have e0 := empty_no hm
        have e00 := empty_no' hm
        have HJ := hide (show OwnL LSp w1.heap.size w2 V (spansP (l.take (k + 1))) by rw [spansP_none hlt (by rw [HX.out]; exact spanP_no hm)]; exact O5)
        clear O5
        go_wp2_with fail
        go_roundw
        case rel => exact ⟨k + 1, _, by omega, rfl, by go_num, HJ, hB2⟩
        case measure => simp [intOf] <;> omega
    · have HJ := hide (show OwnL LSp w.heap.size wr V (spansP l) by have := HO.out; rw [List.take_of_length_le (by omega)] at this; exact this.mono hB1.size)
      go_wp2_with fail
      go_ret
      exact ⟨_, rfl, HJ.out, hBr⟩

end Go.Proofs.YtfcbmajogmojbaaGreatDoor
