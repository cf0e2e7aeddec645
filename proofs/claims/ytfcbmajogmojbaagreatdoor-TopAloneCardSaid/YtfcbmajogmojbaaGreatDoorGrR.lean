/-
  Merged: RngB, RngC.
-/
import Derived.Test.YtfcbmajogmojbaaGreatDoorRngA
import Derived.Deep.CutBlock
namespace Go.Proofs.YtfcbmajogmojbaaGreatDoor
open Go.RowKit
set_option linter.unusedVariables false
set_option linter.unusedSimpArgs false

/-- 'make([]T, 0, n)'. -/
theorem wpList_mkL {α : Type} (L : Lay α) {ops : Array Oper} {rest : List Oper} {o : Oper} {a : Act} {Q : Exit → Act → World → Prop} {w : World} (hg : o.guard = none) (l c : Operand) (t : TypeId) (hop : o.op = Op.makeSlice t l c) (ht : t = L.t)
    (C : Int) (n : Nat) (hl : a.eval l = .int .i64 0) (hc : a.eval c = .int .i64 C) (hC : C = (n : Int)) (hn : n * L.bytes ≤ 140737488355328) (hb : n ≤ maxLen)
    (h : ∀ v' w', OwnL L w.heap.size w' v' [] → Below w.heap.size w w' → wpList Tryz.prog ops Q rest (a.put o.dst v') w') : wpList Tryz.prog ops Q (o :: rest) a w := by
  subst ht
  obtain ⟨i0, hi, hz0, hz1, hz2⟩ := info_parts L.info
  refine wpList_make_own w hg l c _ hop w.heap.size L.e i0 L.z L.n L.ht hi hz0 hz1 .i64 .i64 C n hl hc hC (by rw [hz2, Nat.mul_comm]; omega) hb (Nat.le_refl _) ?_
  intro w' h1 h2
  exact h _ _ (by unfold OwnL; simpa using h1) ⟨h2.os, h2.tape, h2.output, h2.size, fun k hk => h2.block k hk (by simp)⟩
theorem OwnL.rd_set {α : Type} {L : Lay α} {B g i : Nat} {w : World} {v : Value} {l : List α} (h : OwnL L B w v l) (hg : g < B) (u : Value) : RdL L (w.setCell ⟨g, i, none⟩ u) (w.setCell ⟨g, i, none⟩ u).heap.size v l :=
  (h.far (p := ⟨g, i, none⟩) (fun e => by have := (h.lt g e).1; omega) u).rd

set_option maxRecDepth 100000 in
set_option maxHeartbeats 8000000 in
theorem or_any (v u : Value) (s t : List Sp) (w : World) (hs : RdL LSp w w.heap.size v s) (ht : RdL LSp w w.heap.size u t) (hsl : s.length ≤ 500000) (htl : t.length ≤ 500000) : Calls Tryz.prog 13 #[.agg #[v], .agg #[u]] w (SetOk (orL s t) w) := by
  obtain ⟨A, c, rfl, hlc, hc⟩ := hs.form
  obtain ⟨A2, c2, rfl, hlc2, hc2⟩ := ht.form
  have HS := hide hs
  have HT := hide ht
  clear hs ht
  go_enter Tryz.func13, Tryz.ntmps13
  go_upto_region 1 with fail
  obtain ⟨w1, hw1⟩ : ∃ w1 : World, w1 = (((w).alloc (.cells #[.slice A s.length c] 52)).alloc (.cells #[.slice A2 t.length c2] 52)).alloc (.cells #[.slice none 0 0] 52) := ⟨_, rfl⟩
  rw [← hw1]
  have hB1 : Below w.heap.size w w1 := by rw [hw1]; exact ((((Below.refl _ _).alloc (Nat.le_refl _) _).alloc (by simp; try omega) _).alloc (by simp; try omega) _)
  have SB : Blk w1 (w.heap.size) 52 #[.slice A s.length c] := by rw [hw1]; exact (((Blk.new _ _ _).alloc _).alloc _)
  have TB : Blk w1 (w.heap.size + 1) 52 #[.slice A2 t.length c2] := by rw [hw1]; exact ((Blk.new' (by simp)).alloc _)
  have Z : Blk w1 (w.heap.size + 2) 52 #[.slice none 0 0] := by rw [hw1]; exact (Blk.new' (by simp))
  clear hw1
  have cSB := SB.cell
  have cTB := TB.cell
  have cZ := Z.cell
  have lSB := SB.lt
  have lTB := TB.lt
  have lZ := Z.lt
  go_wp2_with (refine wpList_mkL LSp (by rfl) (.const (.int .i64 0)) (.tmp 14) _ (by rfl) rfl ((s.length : Int) + (t.length : Int)) (s.length + t.length) (by rfl) (by rfl) (by omega) (by simp only [LSp]; omega) (by unfold maxLen; omega) ?_; intro v2 w2 O2 hb2)
  have HM0 := hide (Mrg.start s t)
  have SB0 := SB
  have TB0 := TB
  replace O2 := hide O2
  clear cSB cTB cZ
  go_loopw [5, 6, 7] (fun c5 c6 c7 wr => ∃ (i j : Nat) (V : Value) (M : List Sp), i ≤ s.length ∧ j ≤ t.length ∧ V = c5 ∧ c6 = .int .i64 (i : Int) ∧ c7 = .int .i64 (j : Int) ∧ Hid (OwnL LSp w1.heap.size wr V M) ∧ Hid (Mrg s t i j M) ∧ M.length = i + j ∧ Below w1.heap.size w1 wr) (fun _ c6 c7 _ => (s.length - (intOf c6).toNat) + (t.length - (intOf c7).toNat))
  case atStart => exact ⟨0, 0, _, [], Nat.zero_le _, Nat.zero_le _, rfl, rfl, rfl, O2, HM0, rfl, hb2⟩
  case round =>
    clear O2 hb2 SB TB HM0
    obtain ⟨i, j, V, M, hil, hjl, rfl, rfl, rfl, HO, HM, hMl, hb⟩ := hrel
    have hBr : Below w.heap.size w wr := hB1.trans (hb.mono hB1.size)
    have SB := SB0.below hb SB0.lt
    have TB := TB0.below hb TB0.lt
    have cSB := SB.cell
    have cTB := TB.cell
    by_cases hi : i < s.length
    · obtain ⟨bs, os, hAs, hbls, ps, qs⟩ := HS.out.span i hi
      subst hAs
      obtain ⟨fs, ts, hxs⟩ : ∃ x0 x1 : Int, s[i] = (x0, x1) := ⟨_, _, rfl⟩
      rw [hxs] at ps qs
      simp only at ps qs
      have es : wr.cell? ⟨bs, os + i * 2, none⟩ = some (.int .i64 fs) := by rw [hBr.cell (by show bs < _; omega)]; exact ps
      have gs : wr.cell? ⟨bs, os + i * 2 + 1, none⟩ = some (.int .i64 ts) := by rw [hBr.cell (by show bs < _; omega)]; exact qs
      by_cases hj : j < t.length
      · obtain ⟨bt, ot, hAt, hblt, pt, qt⟩ := HT.out.span j hj
        subst hAt
        obtain ⟨ft, tt, hxt⟩ : ∃ x0 x1 : Int, t[j] = (x0, x1) := ⟨_, _, rfl⟩
        rw [hxt] at pt qt
        simp only at pt qt
        have et : wr.cell? ⟨bt, ot + j * 2, none⟩ = some (.int .i64 ft) := by rw [hBr.cell (by show bt < _; omega)]; exact pt
        have gt : wr.cell? ⟨bt, ot + j * 2 + 1, none⟩ = some (.int .i64 tt) := by rw [hBr.cell (by show bt < _; omega)]; exact qt
        by_cases hle : fs ≤ ft
        · have HN := hide (show Mrg s t (i + 1) (j) (M ++ [(fs, ts)]) from HM.out.le_ hi hj hxs hxt hle)
          have HL9 := hide (show M.length + [(fs, ts)].length ≤ 1000000000 by rw [List.length_singleton]; omega)
          have hll : (M ++ [(fs, ts)]).length = i + 1 + (j) := by rw [List.length_append, List.length_singleton]; omega
          have HLL := hide hll
          clear hll HM
          have HXs := hide hxs
          clear hxs
          have HXt := hide hxt
          clear hxt
          have dle : decide (fs ≤ ft) = true := decide_eq_true hle
          have dia : decide ((i : Int) < (s.length : Int)) = true := by simp; omega
          have dib : decide (i < s.length) = true := by simp; omega
          have dja : decide ((j : Int) < (t.length : Int)) = true := by simp; omega
          have djb : decide (j < t.length) = true := by simp; omega
          have dea : ((j : Int) == (t.length : Int)) = false := by simp; omega
          have deb : (j == t.length) = false := by simp; omega
          go_upto_region 4 with fail
          go_quiet (fail)
          obtain ⟨w2, hw2⟩ : ∃ W : World, W = wr.drewN nq := ⟨_, rfl⟩
          first | rw [← hw2] | skip
          have hB2 : Below w1.heap.size w1 w2 := by rw [hw2]; exact below_drewN hb _
          have O2 := HO.out.drewN nq
          rw [← hw2] at O2
          have hBw : Below w.heap.size w w2 := hB1.trans (hB2.mono hB1.size)
          replace SB := SB.drewN nq
          replace TB := TB.drewN nq
          rw [← hw2] at SB TB
          clear cSB cTB es gs et gt hw2
          have cSB := SB.cell
          have cTB := TB.cell
          have es : w2.cell? ⟨bs, os + i * 2, none⟩ = some (.int .i64 fs) := by rw [hBw.cell (by show bs < _; omega)]; exact ps
          have gs : w2.cell? ⟨bs, os + i * 2 + 1, none⟩ = some (.int .i64 ts) := by rw [hBw.cell (by show bs < _; omega)]; exact qs
          have hz7 := hB2.size
          have R7 : RdL LSp (w2.alloc (.cells #[.int .i64 fs, .int .i64 ts] 67)) (w2.heap.size + 1) (.slice (some ⟨w2.heap.size, 0, none⟩) 1 1) [(fs, ts)] := by
            have := RdL.one_ (L := LSp) (x := (fs, ts)) (Blk.new w2 67 #[.int .i64 fs, .int .i64 ts]) rfl
            simpa using this
          go_wp2_with (at_builtin; refine wpList_appL LSp w1 (by rfl) (.tmp 55) (.tmp 61) _ _ (by rfl) rfl rfl w1.heap.size _ _ (by rfl) (O2.alloc _) (hB2.alloc hB2.size _) (by simp; omega) _ [(fs, ts)] _ (by rfl) R7 (by decide) HL9.out ?_)
          intro v7 w7 O7 hB7 _ _
          clear R7 hz7
          have HJ := hide O7
          clear O7 O2 HL9
          go_wp2_with fail
          go_roundw
          case rel => exact ⟨i + 1, j, _, _, by omega, by omega, rfl, by go_num, by go_num, HJ, HN, HLL.out, hB7⟩
          case measure => simp [intOf] <;> omega
        · have HN := hide (show Mrg s t (i) (j + 1) (M ++ [(ft, tt)]) from HM.out.gt_ hi hj hxs hxt hle)
          have HL9 := hide (show M.length + [(ft, tt)].length ≤ 1000000000 by rw [List.length_singleton]; omega)
          have hll : (M ++ [(ft, tt)]).length = i + (j + 1) := by rw [List.length_append, List.length_singleton]; omega
          have HLL := hide hll
          clear hll HM
          have HXt := hide hxt
          clear hxt
          have HXs := hide hxs
          clear hxs
          have dle : decide (fs ≤ ft) = false := decide_eq_false hle
          have dia : decide ((i : Int) < (s.length : Int)) = true := by simp; omega
          have dib : decide (i < s.length) = true := by simp; omega
          have dja : decide ((j : Int) < (t.length : Int)) = true := by simp; omega
          have djb : decide (j < t.length) = true := by simp; omega
          have dea : ((j : Int) == (t.length : Int)) = false := by simp; omega
          have deb : (j == t.length) = false := by simp; omega
          go_upto_region 4 with fail
          go_quiet (fail)
          obtain ⟨w2, hw2⟩ : ∃ W : World, W = wr.drewN nq := ⟨_, rfl⟩
          first | rw [← hw2] | skip
          have hB2 : Below w1.heap.size w1 w2 := by rw [hw2]; exact below_drewN hb _
          have O2 := HO.out.drewN nq
          rw [← hw2] at O2
          have hBw : Below w.heap.size w w2 := hB1.trans (hB2.mono hB1.size)
          replace SB := SB.drewN nq
          replace TB := TB.drewN nq
          rw [← hw2] at SB TB
          clear cSB cTB et gt es gs hw2
          have cSB := SB.cell
          have cTB := TB.cell
          have et : w2.cell? ⟨bt, ot + j * 2, none⟩ = some (.int .i64 ft) := by rw [hBw.cell (by show bt < _; omega)]; exact pt
          have gt : w2.cell? ⟨bt, ot + j * 2 + 1, none⟩ = some (.int .i64 tt) := by rw [hBw.cell (by show bt < _; omega)]; exact qt
          have hz7 := hB2.size
          have R7 : RdL LSp (w2.alloc (.cells #[.int .i64 ft, .int .i64 tt] 67)) (w2.heap.size + 1) (.slice (some ⟨w2.heap.size, 0, none⟩) 1 1) [(ft, tt)] := by
            have := RdL.one_ (L := LSp) (x := (ft, tt)) (Blk.new w2 67 #[.int .i64 ft, .int .i64 tt]) rfl
            simpa using this
          go_wp2_with (at_builtin; refine wpList_appL LSp w1 (by rfl) (.tmp 65) (.tmp 71) _ _ (by rfl) rfl rfl w1.heap.size _ _ (by rfl) (O2.alloc _) (hB2.alloc hB2.size _) (by simp; omega) _ [(ft, tt)] _ (by rfl) R7 (by decide) HL9.out ?_)
          intro v7 w7 O7 hB7 _ _
          clear R7 hz7
          have HJ := hide O7
          clear O7 O2 HL9
          go_wp2_with fail
          go_roundw
          case rel => exact ⟨i, j + 1, _, _, by omega, by omega, rfl, by go_num, by go_num, HJ, HN, HLL.out, hB7⟩
          case measure => simp [intOf] <;> omega
      · have HN := hide (show Mrg s t (i + 1) (j) (M ++ [(fs, ts)]) from HM.out.i_ hi (by omega) hxs)
        have HL9 := hide (show M.length + [(fs, ts)].length ≤ 1000000000 by rw [List.length_singleton]; omega)
        have hll : (M ++ [(fs, ts)]).length = i + 1 + (j) := by rw [List.length_append, List.length_singleton]; omega
        have HLL := hide hll
        clear hll HM
        have HXs := hide hxs
        clear hxs
        have dia : decide ((i : Int) < (s.length : Int)) = true := by simp; omega
        have dib : decide (i < s.length) = true := by simp; omega
        have dja : decide ((j : Int) < (t.length : Int)) = false := by simp; omega
        have djb : decide (j < t.length) = false := by simp; omega
        have dea : ((j : Int) == (t.length : Int)) = true := by simp; omega
        have deb : (j == t.length) = true := by simp; omega
        go_upto_region 4 with fail
        go_quiet (fail)
        obtain ⟨w2, hw2⟩ : ∃ W : World, W = wr.drewN nq := ⟨_, rfl⟩
        first | rw [← hw2] | skip
        have hB2 : Below w1.heap.size w1 w2 := by rw [hw2]; exact below_drewN hb _
        have O2 := HO.out.drewN nq
        rw [← hw2] at O2
        have hBw : Below w.heap.size w w2 := hB1.trans (hB2.mono hB1.size)
        replace SB := SB.drewN nq
        replace TB := TB.drewN nq
        rw [← hw2] at SB TB
        clear cSB cTB es gs hw2
        have cSB := SB.cell
        have cTB := TB.cell
        have es : w2.cell? ⟨bs, os + i * 2, none⟩ = some (.int .i64 fs) := by rw [hBw.cell (by show bs < _; omega)]; exact ps
        have gs : w2.cell? ⟨bs, os + i * 2 + 1, none⟩ = some (.int .i64 ts) := by rw [hBw.cell (by show bs < _; omega)]; exact qs
        have hz7 := hB2.size
        have R7 : RdL LSp (w2.alloc (.cells #[.int .i64 fs, .int .i64 ts] 67)) (w2.heap.size + 1) (.slice (some ⟨w2.heap.size, 0, none⟩) 1 1) [(fs, ts)] := by
          have := RdL.one_ (L := LSp) (x := (fs, ts)) (Blk.new w2 67 #[.int .i64 fs, .int .i64 ts]) rfl
          simpa using this
        go_wp2_with (at_builtin; refine wpList_appL LSp w1 (by rfl) (.tmp 55) (.tmp 61) _ _ (by rfl) rfl rfl w1.heap.size _ _ (by rfl) (O2.alloc _) (hB2.alloc hB2.size _) (by simp; omega) _ [(fs, ts)] _ (by rfl) R7 (by decide) HL9.out ?_)
        intro v7 w7 O7 hB7 _ _
        clear R7 hz7
        have HJ := hide O7
        clear O7 O2 HL9
        go_wp2_with fail
        go_roundw
        case rel => exact ⟨i + 1, j, _, _, by omega, by omega, rfl, by go_num, by go_num, HJ, HN, HLL.out, hB7⟩
        case measure => simp [intOf] <;> omega
    · by_cases hj : j < t.length
      · obtain ⟨bt, ot, hAt, hblt, pt, qt⟩ := HT.out.span j hj
        subst hAt
        obtain ⟨ft, tt, hxt⟩ : ∃ x0 x1 : Int, t[j] = (x0, x1) := ⟨_, _, rfl⟩
        rw [hxt] at pt qt
        simp only at pt qt
        have et : wr.cell? ⟨bt, ot + j * 2, none⟩ = some (.int .i64 ft) := by rw [hBr.cell (by show bt < _; omega)]; exact pt
        have gt : wr.cell? ⟨bt, ot + j * 2 + 1, none⟩ = some (.int .i64 tt) := by rw [hBr.cell (by show bt < _; omega)]; exact qt
        have HN := hide (show Mrg s t (i) (j + 1) (M ++ [(ft, tt)]) from HM.out.j_ (by omega) hj hxt)
        have HL9 := hide (show M.length + [(ft, tt)].length ≤ 1000000000 by rw [List.length_singleton]; omega)
        have hll : (M ++ [(ft, tt)]).length = i + (j + 1) := by rw [List.length_append, List.length_singleton]; omega
        have HLL := hide hll
        clear hll HM
        have HXt := hide hxt
        clear hxt
        have dia : decide ((i : Int) < (s.length : Int)) = false := by simp; omega
        have dib : decide (i < s.length) = false := by simp; omega
        have dja : decide ((j : Int) < (t.length : Int)) = true := by simp; omega
        have djb : decide (j < t.length) = true := by simp; omega
        have dea : ((j : Int) == (t.length : Int)) = false := by simp; omega
        have deb : (j == t.length) = false := by simp; omega
        go_upto_region 4 with fail
        go_quiet (fail)
        obtain ⟨w2, hw2⟩ : ∃ W : World, W = wr.drewN nq := ⟨_, rfl⟩
        first | rw [← hw2] | skip
        have hB2 : Below w1.heap.size w1 w2 := by rw [hw2]; exact below_drewN hb _
        have O2 := HO.out.drewN nq
        rw [← hw2] at O2
        have hBw : Below w.heap.size w w2 := hB1.trans (hB2.mono hB1.size)
        replace SB := SB.drewN nq
        replace TB := TB.drewN nq
        rw [← hw2] at SB TB
        clear cSB cTB et gt hw2
        have cSB := SB.cell
        have cTB := TB.cell
        have et : w2.cell? ⟨bt, ot + j * 2, none⟩ = some (.int .i64 ft) := by rw [hBw.cell (by show bt < _; omega)]; exact pt
        have gt : w2.cell? ⟨bt, ot + j * 2 + 1, none⟩ = some (.int .i64 tt) := by rw [hBw.cell (by show bt < _; omega)]; exact qt
        have hz7 := hB2.size
        have R7 : RdL LSp (w2.alloc (.cells #[.int .i64 ft, .int .i64 tt] 67)) (w2.heap.size + 1) (.slice (some ⟨w2.heap.size, 0, none⟩) 1 1) [(ft, tt)] := by
          have := RdL.one_ (L := LSp) (x := (ft, tt)) (Blk.new w2 67 #[.int .i64 ft, .int .i64 tt]) rfl
          simpa using this
        go_wp2_with (at_builtin; refine wpList_appL LSp w1 (by rfl) (.tmp 65) (.tmp 71) _ _ (by rfl) rfl rfl w1.heap.size _ _ (by rfl) (O2.alloc _) (hB2.alloc hB2.size _) (by simp; omega) _ [(ft, tt)] _ (by rfl) R7 (by decide) HL9.out ?_)
        intro v7 w7 O7 hB7 _ _
        clear R7 hz7
        have HJ := hide O7
        clear O7 O2 HL9
        go_wp2_with fail
        go_roundw
        case rel => exact ⟨i, j + 1, _, _, by omega, by omega, rfl, by go_num, by go_num, HJ, HN, HLL.out, hB7⟩
        case measure => simp [intOf] <;> omega
      · have HX := hide (show M = mergeL s t from HM.out.end_ (by omega) (by omega))
        have di : decide (i < s.length) = false := by simp; omega
        have dj : decide (j < t.length) = false := by simp; omega
        have hMl2 : M.length ≤ 1000000 := by omega
        have HML := hide hMl
        clear hMl
        obtain ⟨A5, k5, hv5, _, _⟩ := HO.out.rd.form
        subst hv5
        go_wp2_with fail
        refine (gather_any _ M wr HO.out.rd hMl2).mono ?_
        rintro e w8 ⟨v8, rfl, O8, hb8⟩
        have hB8 := hb.trans (hb8.mono hb.size)
        have hBw8 := hB1.trans (hB8.mono hB1.size)
        have Z8 := Z.below hB8 Z.lt
        have cZ := Z8.cell
        have fZ := Z8.frozen 0
        have hlz := Z8.lt
        have hbz := hb.size
        obtain ⟨A8, k8, hv8, _, _⟩ := O8.rd.form
        have HR8 := hide (O8.rd_set (g := w.heap.size + 2) (i := 0) (by omega) v8)
        subst hv8
        clear O8 HO HM
        go_wp2_with fail
        refine bodyPost_ret (v := .agg #[.slice A8 (gathL M).length k8]) (by simp [results, Tryz.results13, go_sem, cZ, fZ]) rfl ?_
        refine ⟨_, rfl, ?_, below_set hBw8 (by omega) _⟩
        rw [show orL s t = gathL M by unfold orL; rw [HX.out]]
        exact HR8.out

end Go.Proofs.YtfcbmajogmojbaaGreatDoor
namespace Go.Proofs.YtfcbmajogmojbaaGreatDoor
open Go.RowKit
set_option linter.unusedVariables false
set_option linter.unusedSimpArgs false

theorem Blk.grownL {w w' : World} {g : Nat} {t : TypeId} {cs : Array Value} {row : Option Nat} (h : Blk w g t cs) (hg : w.grownBy w' row) (hne : row ≠ some g) : Blk w' g t cs :=
  (hg.block g h.lt (by first | exact hne | exact fun e => hne e.symm)).trans h

end Go.Proofs.YtfcbmajogmojbaaGreatDoor
