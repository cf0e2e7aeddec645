/-
  When sets are the same; their spans, copied; how many bytes they have.
-/
import Derived.Test.YtfcbmajogmojbaaGreatDoorGrR
import Derived.Test.YtfcbmajogmojbaaGreatDoorPlanM
namespace Go.Proofs.YtfcbmajogmojbaaGreatDoor
open Go.RowKit
set_option linter.unusedVariables false
set_option linter.unusedSimpArgs false

theorem neq_span (a b c d : Int) (w : World) : Sem.run Tryz.prog (binOp .neq 67 (.agg #[.int .i64 a, .int .i64 b]) (.agg #[.int .i64 c, .int .i64 d])) w = .ok (.bool (!(a == c && b == d))) w := by
  have a2 := Tryz.isAgg2
  have z2 := Tryz.sizeOf2
  have u2 := Tryz.underlying2
  have hS : Tryz.prog.underlying 67 = some (.struct (Tryz.prog.fieldsOf 67)) := by kernel_rfl
  have hp : Tryz.prog.stoodInHeld 67 = false := by kernel_rfl
  rw [run_neq_struct, show (10000 : Nat) = 9999 + 1 from rfl, run_equalIn_agg w 9999 67 _ _ hS hp]
  simp only [Program.fieldsOf, Tryz.underlying67]
  go_simp
  by_cases h1 : a = c <;> by_cases h2 : b = d <;> simp [h1, h2]

set_option maxRecDepth 100000 in
set_option maxHeartbeats 4000000 in
theorem sequal_any (v u : Value) (s t : List Sp) (w : World) (hs : RdL LSp w w.heap.size v s) (ht : RdL LSp w w.heap.size u t) : Calls Tryz.prog 38 #[v, u] w (BoolOk (decide (s = t)) w) := by
  obtain ⟨A, c, rfl, hlc, hc⟩ := hs.form
  obtain ⟨A2, c2, rfl, hlc2, hc2⟩ := ht.form
  have HS := hide hs
  have HT := hide ht
  clear hs ht
  by_cases hl : s.length = t.length
  · have d0 : ((s.length : Int) != (t.length : Int)) = false := by simp [bne, hl]
    have d1 : (s.length != t.length) = false := by simp [bne, hl]
    have hle1 : s.length ≤ t.length := by omega
    have hle2 : t.length ≤ s.length := by omega
    have HL := hide hl
    clear hl
    go_enter Tryz.func38, Tryz.ntmps38
    go_wp2_with fail
    go_loopw [5, 13] (fun _ c13 wr => ∃ k : Nat, k ≤ s.length ∧ c13 = .int .i64 (k : Int) ∧ Hid (s.take k = t.take k) ∧ Below w.heap.size w wr) (fun _ c13 _ => s.length - (intOf c13).toNat)
    case atStart => exact ⟨0, Nat.zero_le _, rfl, rfl, Below.refl _ _⟩
    case round =>
      obtain ⟨k, hk, rfl, HJ, hb⟩ := hrel
      by_cases hlt : k < s.length
      · have hlt2 : k < t.length := by omega
        obtain ⟨b1, o1, hA1, hl1, p1, q1⟩ := HS.out.span k hlt
        subst hA1
        obtain ⟨b2, o2, hA2, hl2, p2, q2⟩ := HT.out.span k hlt2
        subst hA2
        obtain ⟨xf, xt, hx⟩ : ∃ x0 x1 : Int, s[k] = (x0, x1) := ⟨_, _, rfl⟩
        obtain ⟨yf, yt, hy⟩ : ∃ x0 x1 : Int, t[k] = (x0, x1) := ⟨_, _, rfl⟩
        rw [hx] at p1 q1
        rw [hy] at p2 q2
        simp only at p1 q1 p2 q2
        have e1 : wr.cell? ⟨b1, o1 + k * 2, none⟩ = some (.int .i64 xf) := by rw [hb.cell (by show b1 < _; omega)]; exact p1
        have f1 : wr.cell? ⟨b1, o1 + k * 2 + 1, none⟩ = some (.int .i64 xt) := by rw [hb.cell (by show b1 < _; omega)]; exact q1
        have e2 : wr.cell? ⟨b2, o2 + k * 2, none⟩ = some (.int .i64 yf) := by rw [hb.cell (by show b2 < _; omega)]; exact p2
        have f2 : wr.cell? ⟨b2, o2 + k * 2 + 1, none⟩ = some (.int .i64 yt) := by rw [hb.cell (by show b2 < _; omega)]; exact q2
        have HXX := hide hx
        have HYY := hide hy
        clear p1 q1 p2 q2 hx hy
        have g1 : (0 : Int) ≤ (k : Int) := by omega
        have g2 : (k : Int) < (s.length : Int) := by omega
        have g3 : (k : Int) < (t.length : Int) := by omega
        have hgd : ∀ (a b : Operand) (w : World), Sem.run Tryz.prog (eqGuard .neq 67 a b (.agg #[.int .i64 xf, .int .i64 xt]) (.agg #[.int .i64 yf, .int .i64 yt])) w = .ok () w := fun a b w => run_eqGuard_agg w .neq 67 a b _ _ (by kernel_rfl)
        cases hq : (!(xf == yf && xt == yt))
        · have hne : ∀ w : World, Sem.run Tryz.prog (binOp .neq 67 (.agg #[.int .i64 xf, .int .i64 xt]) (.agg #[.int .i64 yf, .int .i64 yt])) w = .ok (.bool false) w := fun w => by rw [neq_span, hq]
          have HK := hide (show s.take (k + 1) = t.take (k + 1) by
            rw [List.take_succ_eq_append_getElem hlt, List.take_succ_eq_append_getElem hlt2, HJ.out, HXX.out, HYY.out]
            have : xf = yf ∧ xt = yt := by simpa using hq
            rw [this.1, this.2])
          clear hq
          go_upto_region 6 with fail
          go_quiet (fail)
          obtain ⟨w2, hw2⟩ : ∃ W : World, W = wr.drewN nq := ⟨_, rfl⟩
          first | rw [← hw2] | skip
          have hB2 : Below w.heap.size w w2 := by rw [hw2]; exact below_drewN hb _
          clear hw2 e1 f1 e2 f2
          go_wp2_with fail
          go_roundw
          case rel => exact ⟨k + 1, by omega, by go_num, HK, hB2⟩
          case measure => simp [intOf] <;> omega
        · have hne : ∀ w : World, Sem.run Tryz.prog (binOp .neq 67 (.agg #[.int .i64 xf, .int .i64 xt]) (.agg #[.int .i64 yf, .int .i64 yt])) w = .ok (.bool true) w := fun w => by rw [neq_span, hq]
          have HK := hide (show decide (s = t) = false by
            rw [decide_eq_false_iff_not]
            rintro rfl
            rw [HXX.out] at HYY
            have := HYY.out
            simp only [Prod.mk.injEq] at this
            rw [this.1, this.2] at hq
            simp at hq)
          clear hq
          go_upto_region 6 with fail
          go_quiet (fail)
          go_wp2_with fail
          go_ret
          exact ⟨ret_bool HK.out.symm, below_drewN hb _⟩
      · have HK := hide (show decide (s = t) = true by
          rw [decide_eq_true_iff]
          have := HJ.out
          rwa [List.take_of_length_le (by omega), List.take_of_length_le (by omega)] at this)
        go_wp2_with fail
        go_ret
        exact ⟨ret_bool HK.out.symm, hb⟩
  · have d0 : ((s.length : Int) != (t.length : Int)) = true := by simp [bne]; omega
    have d1 : (s.length != t.length) = true := by simp [bne]; omega
    have HK := hide (show decide (s = t) = false by rw [decide_eq_false_iff_not]; rintro rfl; exact hl rfl)
    clear hl
    go_enter Tryz.func38, Tryz.ntmps38
    go_wp2_with fail
    go_ret
    exact ⟨ret_bool HK.out.symm, Below.refl _ _⟩

set_option maxRecDepth 100000 in
set_option maxHeartbeats 1000000 in
theorem same_any (v u : Value) (s t : List Sp) (w : World) (hs : RdL LSp w w.heap.size v s) (ht : RdL LSp w w.heap.size u t) : Calls Tryz.prog 16 #[.agg #[v], .agg #[u]] w (BoolOk (decide (s = t)) w) := by
  have HS := hide hs
  have HT := hide ht
  obtain ⟨A, c, rfl, hlc, hc⟩ := hs.form
  obtain ⟨A2, c2, rfl, hlc2, hc2⟩ := ht.form
  clear hs ht
  obtain ⟨q, hq⟩ : ∃ q, q = decide (s = t) := ⟨_, rfl⟩
  go_enter Tryz.func16, Tryz.ntmps16
  go_upto_region 1 with fail
  obtain ⟨w1, hw1⟩ : ∃ w1 : World, w1 = ((w).alloc (.cells #[.slice A s.length c] 52)).alloc (.cells #[.slice A2 t.length c2] 52) := ⟨_, rfl⟩
  rw [← hw1]
  have hB1 : Below w.heap.size w w1 := by rw [hw1]; exact (((Below.refl _ _).alloc (Nat.le_refl _) _).alloc (by simp; try omega) _)
  have SB : Blk w1 (w.heap.size) 52 #[.slice A s.length c] := by rw [hw1]; exact ((Blk.new _ _ _).alloc _)
  have TB : Blk w1 (w.heap.size + 1) 52 #[.slice A2 t.length c2] := by rw [hw1]; exact (Blk.new' (by simp))
  clear hw1
  have cSB := SB.cell
  have cTB := TB.cell
  have hcon := sequal_any _ _ s t w1 ((HS.out.below hB1).mono hB1.size) ((HT.out.below hB1).mono hB1.size)
  rw [← hq] at hcon
  have HQ := hide hq
  clear hq
  go_wp2_with fail
  refine hcon.mono ?_
  clear hcon
  rintro e w2 ⟨rfl, hb2⟩
  have hB2 := hB1.trans (hb2.mono hB1.size)
  go_wp2_with fail
  go_ret
  exact ⟨ret_bool HQ.out, hB2⟩

theorem sum_bd {s : List Sp} (hN : Nf s) (hO : ∀ x ∈ s, x.2 ≤ 1099511627776) (k : Nat) : 0 ≤ sumL (s.take k) ∧ sumL (s.take k) ≤ 1099511627776 := by
  have h : Nf (s.take k) := by rw [← List.take_append_drop k s] at hN; exact (nf_app.1 hN).1
  have := laid_sum (lo := 0) (hi := 1099511627776) (nf_laid h fun x hx => (nf_ok h x hx).1) (fun x hx => hO x (List.mem_of_mem_take hx)) (by omega)
  omega
def I64Ok (v : Int) (w : World) (e : Ending) (w' : World) : Prop := e = .returned (.int .i64 v) ∧ Below w.heap.size w w'

set_option maxRecDepth 100000 in
set_option maxHeartbeats 4000000 in
theorem slen_any (v : Value) (s : List Sp) (w : World) (hs : RdL LSp w w.heap.size v s) (hN : Nf s) (hO : ∀ x ∈ s, x.2 ≤ 1099511627776) : Calls Tryz.prog 17 #[.agg #[v]] w (I64Ok (sumL s) w) := by
  have HS := hide hs
  obtain ⟨A, c, rfl, hlc, hc⟩ := hs.form
  clear hs
  have HN := hide hN
  have HO := hide hO
  clear hN hO
  go_enter Tryz.func17, Tryz.ntmps17
  go_upto_region 1 with fail
  obtain ⟨w1, hw1⟩ : ∃ w1 : World, w1 = (w).alloc (.cells #[.slice A s.length c] 52) := ⟨_, rfl⟩
  rw [← hw1]
  have hB1 : Below w.heap.size w w1 := by rw [hw1]; exact ((Below.refl _ _).alloc (Nat.le_refl _) _)
  have SB : Blk w1 (w.heap.size) 52 #[.slice A s.length c] := by rw [hw1]; exact (Blk.new _ _ _)
  clear hw1
  have cSB := SB.cell
  have SB0 := SB
  go_wp2_with fail
  go_loopw [3, 5, 9] (fun c3 _ c9 wr => ∃ k : Nat, k ≤ s.length ∧ c9 = .int .i64 (k : Int) ∧ c3 = .int .i64 (sumL (s.take k)) ∧ Below w.heap.size w wr) (fun _ _ c9 _ => s.length - (intOf c9).toNat)
  case atStart => exact ⟨0, Nat.zero_le _, rfl, rfl, hB1⟩
  case round =>
    clear SB cSB
    obtain ⟨k, hk, rfl, rfl, hb⟩ := hrel
    by_cases hlt : k < s.length
    · obtain ⟨bs, os, hAs, hbls, ps, qs⟩ := HS.out.span k hlt
      subst hAs
      obtain ⟨xf, xt, hx⟩ : ∃ x0 x1 : Int, s[k] = (x0, x1) := ⟨_, _, rfl⟩
      have hst := sum_take hlt
      rw [hx] at ps qs hst
      simp only at ps qs hst
      have ho := nf_ok HN.out s[k] (List.getElem_mem hlt)
      have ho2 := HO.out s[k] (List.getElem_mem hlt)
      rw [hx] at ho ho2
      unfold okS at ho
      simp only at ho ho2
      obtain ⟨ho3, ho4, ho5⟩ := ho
      have hs0 := sum_bd HN.out HO.out k
      have hs1 := sum_bd HN.out HO.out (k + 1)
      rw [hst] at hs1
      obtain ⟨z, hz⟩ : ∃ z, z = sumL (s.take k) := ⟨_, rfl⟩
      rw [← hz] at hs0 hs1 hst ⊢
      obtain ⟨hs2, hs3⟩ := hs0
      obtain ⟨hs4, hs5⟩ := hs1
      have HST := hide hst
      have HX := hide hx
      have HZ := hide hz
      clear hst hx hz
      have es : wr.cell? ⟨bs, os + k * 2, none⟩ = some (.int .i64 xf) := by rw [hb.cell (by show bs < _; omega)]; exact ps
      have gs : wr.cell? ⟨bs, os + k * 2 + 1, none⟩ = some (.int .i64 xt) := by rw [hb.cell (by show bs < _; omega)]; exact qs
      have dne : (xt == 4611686018427387904) = false := by simp; omega
      clear ps qs
      have hbz := hb.size
      have w1a : 0 ≤ xt - xf := by omega
      have w1b : xt - xf ≤ 1099511627776 := by omega
      have w1c : 0 ≤ z + (xt - xf) := by omega
      have w1d : z + (xt - xf) ≤ 1099511627776 := by omega
      go_upto_region 5 with fail
      obtain ⟨w2, hw2⟩ : ∃ W : World, W = wr.alloc (.cells #[.int .i64 xf, .int .i64 xt] 67) := ⟨_, rfl⟩
      first | rw [← hw2] | skip
      have X : Blk w2 wr.heap.size 67 #[.int .i64 xf, .int .i64 xt] := by rw [hw2]; exact Blk.new _ _ _
      have hB2 : Below w.heap.size w w2 := by rw [hw2]; exact hb.alloc hb.size _
      have cX := X.cell
      clear hw2 es gs
      go_wp2_with fail
      go_roundw
      case rel => exact ⟨k + 1, by omega, by go_num, by rw [HST.out], hB2⟩
      case measure => simp [intOf] <;> omega
    · have HX := hide (show sumL (s.take k) = sumL s by rw [List.take_of_length_le (by omega)])
      go_wp2_with fail
      go_ret
      exact ⟨ret_int HX.out, hb⟩

end Go.Proofs.YtfcbmajogmojbaaGreatDoor
