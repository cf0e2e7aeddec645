/-
  Where a fetch ends.
-/
import Derived.Test.YtfcbmajogmojbaaDoorPlD
namespace Go.Proofs.YtfcbmajogmojbaaDoor
open Go.RowKit Go.Shelf
set_option linter.unusedVariables false
set_option linter.unusedSimpArgs false

set_option maxRecDepth 100000 in
set_option maxHeartbeats 6000000 in
theorem end_any (v : Value) (x : Sp) (l : List Sp) (fr : Int) (w : World) (hr : RdL LSp w w.heap.size v (x :: l)) (hN : Nf (x :: l)) (hi : ∀ y ∈ x :: l, 0 ≤ y.1 ∧ y.2 ≤ 120) (hfr : x.1 < fr) : Calls Tryd.prog 39 #[v, .int .i64 fr, .agg #[.int .i64 4, .int .i64 0, .int .i64 64, .int .i64 8, .int .i64 2, .int .i64 1, .int .i64 8, .int .i64 400, .int .i64 400, .int .i64 16]] w (I64Ok (endS x) w) := by
  obtain ⟨A, c, rfl, hlc, hc⟩ := hr.form
  obtain ⟨xf, xt⟩ := x
  obtain ⟨b0, off, hA, hbl, px, qx⟩ := hr.span 0 (by simp)
  subst hA
  simp only [List.getElem_cons_zero, Nat.zero_mul, Nat.add_zero] at px qx
  obtain ⟨m, hm⟩ : ∃ n, n = l.length := ⟨_, rfl⟩
  have hL : ((xf, xt) :: l).length = m + 1 := by simp [hm]
  have HI := hide hi
  have HN := hide hN
  have hxi := hi (xf, xt) (by simp)
  simp only at hxi hfr
  have hok := hN.1
  unfold okS at hok
  simp only at hok
  obtain ⟨b9, o9, e9, hu1, hu2, qm⟩ := hr.span m (by rw [hL]; omega)
  cases e9
  clear hu1 hu2
  obtain ⟨lt, hlt⟩ : ∃ x, x = (((xf, xt) :: l)[m]'(by rw [hL]; omega)).2 := ⟨_, rfl⟩
  rw [← hlt] at qm
  have hlb : lt ≤ 120 := by rw [hlt]; exact (hi _ (List.getElem_mem _)).2
  clear hlt
  have HR := hide hr
  have HL := hide hL
  rw [hL] at hlc hr ⊢
  clear hr hN hi hL hm
  have dO : (lt == 4611686018427387904) = false := by simp; omega
  have hmi : ((m + 1 : Nat) : Int) - 1 = (m : Int) := by omega
  have hm0 : (0 : Int) ≤ (m : Int) := by omega
  have hmlt : (m : Int) < ((m + 1 : Nat) : Int) := by omega
  go_enter Tryd.func39, Tryd.ntmps39
  go_upto_region 1 with fail
  obtain ⟨w1, hw1⟩ : ∃ w1 : World, w1 = (w).alloc (.cells #[.int .i64 4, .int .i64 0, .int .i64 64, .int .i64 8, .int .i64 2, .int .i64 1, .int .i64 8, .int .i64 400, .int .i64 400, .int .i64 16] 47) := ⟨_, rfl⟩
  rw [← hw1]
  have hB1 : Below w.heap.size w w1 := by rw [hw1]; exact ((Below.refl _ _).alloc (Nat.le_refl _) _)
  have C : Blk w1 (w.heap.size) 47 #[.int .i64 4, .int .i64 0, .int .i64 64, .int .i64 8, .int .i64 2, .int .i64 1, .int .i64 8, .int .i64 400, .int .i64 400, .int .i64 16] := by rw [hw1]; exact (Blk.new _ _ _)
  clear hw1
  have cC := C.cell
  have em : w1.cell? ⟨b0, off + m * 2 + 1, none⟩ = some (.int .i64 lt) := by rw [hB1.cell (by show b0 < _; omega)]; exact qm
  have ex : w1.cell? ⟨b0, off, none⟩ = some (.int .i64 xf) := by rw [hB1.cell (by show b0 < _; omega)]; exact px
  have gx : w1.cell? ⟨b0, off + 1, none⟩ = some (.int .i64 xt) := by rw [hB1.cell (by show b0 < _; omega)]; exact qx
  go_upto_region 2 with fail
  go_quiet (fail)
  obtain ⟨w2, hw2⟩ : ∃ W : World, W = w1.drewN nq := ⟨_, rfl⟩
  first | rw [← hw2] | skip
  have hB2 : Below w.heap.size w w2 := by rw [hw2]; exact below_drewN hB1 _
  have C2 : Blk w2 w.heap.size 47 #[.int .i64 4, .int .i64 0, .int .i64 64, .int .i64 8, .int .i64 2, .int .i64 1, .int .i64 8, .int .i64 400, .int .i64 400, .int .i64 16] := by rw [hw2]; exact C.drewN nq
  clear hw2 cC C em ex gx
  have cC := C2.cell
  have ex : w2.cell? ⟨b0, off, none⟩ = some (.int .i64 xf) := by rw [hB2.cell (by show b0 < _; omega)]; exact px
  have gx : w2.cell? ⟨b0, off + 1, none⟩ = some (.int .i64 xt) := by rw [hB2.cell (by show b0 < _; omega)]; exact qx
  go_upto_region 5 with fail
  go_quiet (fail)
  obtain ⟨w3, hw3⟩ : ∃ W : World, W = w2.drewN nq := ⟨_, rfl⟩
  first | rw [← hw3] | skip
  have hB3 : Below w.heap.size w w3 := by rw [hw3]; exact below_drewN hB2 _
  have C3 : Blk w3 w.heap.size 47 #[.int .i64 4, .int .i64 0, .int .i64 64, .int .i64 8, .int .i64 2, .int .i64 1, .int .i64 8, .int .i64 400, .int .i64 400, .int .i64 16] := by rw [hw3]; exact C2.drewN nq
  clear hw3 cC C2 ex gx hB2
  have C2 := C3
  have hB2 := hB3
  clear C3 hB3
  obtain ⟨w2', hw2'⟩ : ∃ W : World, W = w3 := ⟨_, rfl⟩
  rw [← hw2'] at hB2 C2 ⊢
  clear hw2'
  skip
  go_wp2_with fail
  go_loopw [10, 11, 12, 13, 53] (fun c10 c11 _ _ c53 wr => ((c53 = .int .i64 0 ∧ c10 = .int .i64 xf ∧ c11 = .int .i64 0) ∨ (c53 = .int .i64 1 ∧ xt - xf ≤ 64 ∧ c10 = .int .i64 xt ∧ c11 = .int .i64 0)) ∧ Below w2'.heap.size w2' wr) (fun _ _ _ _ c53 _ => (m + 1) - (intOf c53).toNat)
  case atStart => exact ⟨.inl ⟨rfl, rfl, rfl⟩, Below.refl _ _⟩
  case round =>
    obtain ⟨hcs, hb⟩ := hrel
    have hBr := hB2.trans (hb.mono hB2.size)
    rcases hcs with ⟨rfl, rfl, rfl⟩ | ⟨rfl, h64, rfl, rfl⟩
    · have hlt0 : (0 : Int) < ((m + 1 : Nat) : Int) := by omega
      have dz : decide ((0 : Int) > 0) = false := by decide
      have df : decide (xf > fr) = false := decide_eq_false (by omega)
      have ex : wr.cell? ⟨b0, off, none⟩ = some (.int .i64 xf) := by rw [hBr.cell (by show b0 < _; omega)]; exact px
      have gx : wr.cell? ⟨b0, off + 1, none⟩ = some (.int .i64 xt) := by rw [hBr.cell (by show b0 < _; omega)]; exact qx
      have C4 := C2.below hb C2.lt
      have cC := (C4.alloc (.cells #[.int .i64 xf, .int .i64 xt] 31)).cell
      by_cases h64 : xt - xf ≤ 64
      · have d64 : decide (xt - xf ≤ 64) = true := decide_eq_true h64
        have hB4 := hb.alloc hb.size (.cells #[.int .i64 xf, .int .i64 xt] 31)
        go_wp2_with fail
        go_roundw
        case rel => exact ⟨.inr ⟨rfl, h64, rfl, rfl⟩, hB4⟩
        case measure => simp [intOf] <;> omega
      · have d64 : decide (xt - xf ≤ 64) = false := decide_eq_false h64
        have dm : decide (xf + 64 > xf) = true := decide_eq_true (by omega)
        have HES := hide (show endS (xf, xt) = xf + 64 by unfold endS; rw [if_neg h64])
        have hB4 := hB2.trans ((hb.alloc hb.size (.cells #[.int .i64 xf, .int .i64 xt] 31)).mono hB2.size)
        go_wp2_with fail
        go_ret
        exact ⟨ret_int HES.out.symm, hB4⟩
    · have dz : decide ((1 : Int) > 0) = true := by decide
      have HES := hide (show endS (xf, xt) = xt by unfold endS; rw [if_pos h64])
      by_cases hm : 1 < m + 1
      · obtain ⟨yf, yt, hy⟩ : ∃ a b : Int, (((xf, xt) :: l)[1]'(by rw [HL.out]; exact hm)) = (a, b) := ⟨_, _, rfl⟩
        obtain ⟨_, _, e9, _, py, qy⟩ := HR.out.span 1 (by rw [HL.out]; exact hm)
        cases e9
        rw [hy] at py qy
        simp only [Nat.one_mul] at py qy
        have hgap : xt < yf := by
          have hmem : (yf, yt) ∈ l := by
            have h0 : 0 < l.length := by have := HL.out; rw [List.length_cons] at this; omega
            have e : (((xf, xt) :: l)[1]'(by rw [HL.out]; exact hm)) = l[0]'h0 := rfl
            rw [← hy, e]
            exact List.getElem_mem h0
          exact HN.out.2.1 (yf, yt) hmem
        have ey : wr.cell? ⟨b0, off + 2, none⟩ = some (.int .i64 yf) := by rw [hBr.cell (by show b0 < _; omega)]; exact py
        have gy : wr.cell? ⟨b0, off + 2 + 1, none⟩ = some (.int .i64 yt) := by rw [hBr.cell (by show b0 < _; omega)]; exact qy
        have ex : wr.cell? ⟨b0, off, none⟩ = some (.int .i64 xf) := by rw [hBr.cell (by show b0 < _; omega)]; exact px
        have gx : wr.cell? ⟨b0, off + 1, none⟩ = some (.int .i64 xt) := by rw [hBr.cell (by show b0 < _; omega)]; exact qx
        have hyb := HI.out (yf, yt) (by rw [← hy]; exact List.getElem_mem _)
        simp only at hyb
        have hyo := nf_ok HN.out (yf, yt) (by rw [← hy]; exact List.getElem_mem _)
        unfold okS at hyo
        simp only at hyo
        have C4 := C2.below hb C2.lt
        have cC := (C4.alloc (.cells #[.int .i64 yf, .int .i64 yt] 31)).cell
        have cC4 := C4.cell
        have gx4 : (wr.alloc (.cells #[.int .i64 yf, .int .i64 yt] 31)).cell? ⟨b0, off + 1, none⟩ = some (.int .i64 xt) := by rw [((Below.refl _ wr).alloc (Nat.le_refl _) _).cell (by show b0 < _; have := hBr.size; omega)]; exact gx
        have hlt1 : (1 : Int) < ((m + 1 : Nat) : Int) := by omega
        have HY := hide hy
        clear hy
        go_upto_region 11 with fail
        go_quiet (fail)
        obtain ⟨w4, hw4⟩ : ∃ W : World, W = (wr.alloc (.cells #[.int .i64 yf, .int .i64 yt] 31)).drewN nq := ⟨_, rfl⟩
        first | rw [← hw4] | skip
        have hB4 : Below w.heap.size w w4 := by rw [hw4]; exact below_drewN (hBr.alloc hBr.size _) _
        have C5 : Blk w4 w.heap.size 47 #[.int .i64 4, .int .i64 0, .int .i64 64, .int .i64 8, .int .i64 2, .int .i64 1, .int .i64 8, .int .i64 400, .int .i64 400, .int .i64 16] := by rw [hw4]; exact (C4.alloc _).drewN nq
        have Y5 : Blk w4 wr.heap.size 31 #[.int .i64 yf, .int .i64 yt] := by rw [hw4]; exact (Blk.new _ _ _).drewN nq
        clear hw4 cC cC4 C4 gx4 ex gx ey gy
        have cC := C5.cell
        have cY := Y5.cell
        have dw : decide (yf - xt > 0) = true := decide_eq_true (by omega)
        by_cases hfy : yf > fr
        · have df : decide (yf > fr) = true := decide_eq_true hfy
          go_wp2_with fail
          go_ret
          exact ⟨ret_int HES.out.symm, hB4⟩
        · have df : decide (yf > fr) = false := decide_eq_false hfy
          go_wp2_with fail
          go_ret
          exact ⟨ret_int HES.out.symm, hB4⟩
      · have hlt1 : ¬ (1 : Int) < ((m + 1 : Nat) : Int) := by omega
        go_wp2_with fail
        go_ret
        exact ⟨ret_int HES.out.symm, hBr⟩

end Go.Proofs.YtfcbmajogmojbaaDoor
