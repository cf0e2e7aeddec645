/-
  What one set has, and the other hasn't.
-/
import Derived.Test.YtfcbmajogmojbaaDoorRngB
import Derived.Deep.CutBlock
namespace Go.Proofs.YtfcbmajogmojbaaDoor
open Go.RowKit
set_option linter.unusedVariables false
set_option linter.unusedSimpArgs false

theorem Blk.grownL {w w' : World} {g : Nat} {t : TypeId} {cs : Array Value} {row : Option Nat} (h : Blk w g t cs) (hg : w.grownBy w' row) (hne : row ≠ some g) : Blk w' g t cs :=
  (hg.block g h.lt (by first | exact hne | exact fun e => hne e.symm)).trans h

set_option maxRecDepth 100000 in
set_option maxHeartbeats 8000000 in
theorem less_any (v u : Value) (s t : List Sp) (w : World) (hs : RdL LSp w w.heap.size v s) (ht : RdL LSp w w.heap.size u t) (h1000 : s.length ≤ 1000) (h1001 : t.length ≤ 1000) : Calls Tryd.prog 8 #[.agg #[v], .agg #[u]] w (SetOk (lessL s t) w) := by
  obtain ⟨A, c, rfl, hlc, hc⟩ := hs.form
  obtain ⟨A2, c2, rfl, hlc2, hc2⟩ := ht.form
  have HS := hide hs
  have HT := hide ht
  clear hs ht
  go_enter Tryd.func8, Tryd.ntmps8
  go_upto_region 1 with fail
  obtain ⟨w1, hw1⟩ : ∃ w1 : World, w1 = (((w).alloc (.cells #[.slice A s.length c] 28)).alloc (.cells #[.slice A2 t.length c2] 28)).alloc (.cells #[.slice none 0 0] 28) := ⟨_, rfl⟩
  rw [← hw1]
  have hB1 : Below w.heap.size w w1 := by rw [hw1]; exact ((((Below.refl _ _).alloc (Nat.le_refl _) _).alloc (by simp; try omega) _).alloc (by simp; try omega) _)
  have SB : Blk w1 (w.heap.size) 28 #[.slice A s.length c] := by rw [hw1]; exact (((Blk.new _ _ _).alloc _).alloc _)
  have TB : Blk w1 (w.heap.size + 1) 28 #[.slice A2 t.length c2] := by rw [hw1]; exact ((Blk.new' (by simp)).alloc _)
  have Z : Blk w1 (w.heap.size + 2) 28 #[.slice none 0 0] := by rw [hw1]; exact (Blk.new' (by simp))
  clear hw1
  have cSB := SB.cell
  have cTB := TB.cell
  have cZ := Z.cell
  have SB0 := SB
  have TB0 := TB
  have lZ := Z.lt
  clear cZ
  go_wp2_with fail
  go_loopw [5, 6, 8, 9, 10, 14] (fun c5 c6 _ _ _ c14 wr => ∃ (k j : Nat) (V : Value) (M : List Sp), k ≤ s.length ∧ j ≤ t.length ∧ V = c5 ∧ c6 = .int .i64 (j : Int) ∧ c14 = .int .i64 (k : Int) ∧ Hid (OwnL LSp w1.heap.size wr V M) ∧ Hid (Lss s t k j M) ∧ Below w1.heap.size w1 wr) (fun _ _ _ _ _ c14 _ => s.length - (intOf c14).toNat)
  case atStart => exact ⟨0, 0, _, [], Nat.zero_le _, Nat.zero_le _, rfl, rfl, rfl, OwnL.nil _ _ _, Lss.start s t, Below.refl _ _⟩
  case round =>
    clear SB TB cSB cTB
    obtain ⟨k, j, V, M, hkl, hjl, rfl, rfl, rfl, HO, HM, hb⟩ := hrel
    by_cases hk : k < s.length
    · obtain ⟨bs, os, hAs, hbls, ps, qs⟩ := HS.out.span k hk
      subst hAs
      obtain ⟨xf, xt, hx⟩ : ∃ x0 x1 : Int, s[k] = (x0, x1) := ⟨_, _, rfl⟩
      rw [hx] at ps qs
      simp only at ps qs
      have hBr : Below w.heap.size w wr := hB1.trans (hb.mono hB1.size)
      have es : wr.cell? ⟨bs, os + k * 2, none⟩ = some (.int .i64 xf) := by rw [hBr.cell (by show bs < _; omega)]; exact ps
      have gs : wr.cell? ⟨bs, os + k * 2 + 1, none⟩ = some (.int .i64 xt) := by rw [hBr.cell (by show bs < _; omega)]; exact qs
      have HX := hide hx
      clear ps qs hx
      go_upto_region 6 with fail
      obtain ⟨w2, hw2⟩ : ∃ W : World, W = wr.alloc (.cells #[.int .i64 xf, .int .i64 xt] 31) := ⟨_, rfl⟩
      first | rw [← hw2] | skip
      have X : Blk w2 wr.heap.size 31 #[.int .i64 xf, .int .i64 xt] := by rw [hw2]; exact Blk.new _ _ _
      have hB2 : Below w1.heap.size w1 w2 := by rw [hw2]; exact hb.alloc hb.size _
      have HO2 : Hid (OwnL LSp w1.heap.size w2 V M) := by rw [hw2]; exact HO.out.alloc _
      have HNE := hide (show V.ownBlock ≠ some wr.heap.size from fun e => by have := (HO.out.lt _ e).2; omega)
      obtain ⟨xb, hxb⟩ : ∃ n, n = wr.heap.size := ⟨_, rfl⟩
      rw [← hxb] at X HNE ⊢
      clear hw2 es gs HO hb hxb hBr
      have hBw : Below w.heap.size w w2 := hB1.trans (hB2.mono hB1.size)
      have TB := TB0.below hB2 TB0.lt
      have cTB := TB.cell
      have cX := X.cell
      go_upto_block 2 with fail
      go_cut [6] (fun p6 wx => ∃ i : Nat, p6 = .int .i64 (i : Int) ∧ i ≤ t.length ∧ Hid (t.drop i = skipL xf (t.drop j)) ∧ w2 = wx)
      case first =>
        go_wp2_with fail
        go_loop [6] (fun c6 => ∃ i : Nat, c6 = .int .i64 (i : Int) ∧ i ≤ t.length ∧ Hid (Skp t xf j i)) (fun c6 => t.length - (intOf c6).toNat)
        case atStart => exact ⟨j, rfl, hjl, Skp.refl t xf j⟩
        case round =>
          obtain ⟨i, rfl, hil, HK⟩ := hrel
          by_cases hi : i < t.length
          · obtain ⟨bt, ot, hAt, hblt, pt, qt⟩ := HT.out.span i hi
            subst hAt
            obtain ⟨yf, yt, hy⟩ : ∃ x0 x1 : Int, t[i] = (x0, x1) := ⟨_, _, rfl⟩
            rw [hy] at pt qt
            simp only at pt qt
            have et : w2.cell? ⟨bt, ot + i * 2, none⟩ = some (.int .i64 yf) := by rw [hBw.cell (by show bt < _; omega)]; exact pt
            have gt : w2.cell? ⟨bt, ot + i * 2 + 1, none⟩ = some (.int .i64 yt) := by rw [hBw.cell (by show bt < _; omega)]; exact qt
            clear pt qt
            have dia : decide ((i : Int) < (t.length : Int)) = true := by simp; omega
            have dib : decide (i < t.length) = true := by simp; omega
            by_cases hle : yt ≤ xf
            · have dle : decide (yt ≤ xf) = true := decide_eq_true hle
              have HK2 := hide (HK.out.next hi hy hle)
              have HY := hide hy
              clear hy
              go_wp2_with fail
              go_round
              case rel => exact ⟨i + 1, by go_num, by omega, HK2⟩
              case measure => simp [intOf] <;> omega
            · have dle : decide (yt ≤ xf) = false := decide_eq_false hle
              have HK2 := hide (HK.out.stop fun hi2 => by rw [hy]; exact hle)
              have HY := hide hy
              clear hy
              go_wp2_with fail
              go_meet
              exact ⟨i, rfl, hil, HK2, rfl⟩
          · have dia : decide ((i : Int) < (t.length : Int)) = false := by simp; omega
            have dib : decide (i < t.length) = false := by simp; omega
            have HK2 := hide (HK.out.stop fun hi2 => absurd hi2 hi)
            go_wp2_with fail
            go_meet
            exact ⟨i, rfl, hil, HK2, rfl⟩
      case rest =>
        obtain ⟨j2, rfl, hj2, HD, rfl⟩ := hcut
        have HLI := hide (HM.out.lin hk HX.out HD.out)
        clear HM HD
        go_upto_block 4 with fail
        go_cut [5, 9, 10] (fun p5 p9 _ wx => ∃ (b : Int) (V : Value) (M : List Sp), V = p5 ∧ p9 = .int .i64 b ∧ Hid (Lfi s t (xf, xt) k j2 b M) ∧ Hid (M.length ≤ 1001000) ∧ Hid (OwnL LSp w1.heap.size wx V M) ∧ Blk wx xb 31 #[.int .i64 xf, .int .i64 xt] ∧ Hid (V.ownBlock ≠ some xb) ∧ Below w1.heap.size w1 wx)
        case first =>
          go_wp2_with fail
          go_loopw [5, 9, 10] (fun c5 c9 c10 wx => ∃ (i : Nat) (b : Int) (V : Value) (M : List Sp), i ≤ t.length ∧ V = c5 ∧ c9 = .int .i64 b ∧ c10 = .int .i64 (i : Int) ∧ Hid (Lin s t (xf, xt) k j2 i b M) ∧ Hid (OwnL LSp w1.heap.size wx V M) ∧ Blk wx xb 31 #[.int .i64 xf, .int .i64 xt] ∧ Hid (V.ownBlock ≠ some xb) ∧ Below w1.heap.size w1 wx) (fun _ _ c10 _ => t.length - (intOf c10).toNat)
          case atStart => exact ⟨j2, xf, V, M, hj2, rfl, rfl, rfl, HLI, HO2, X, HNE, hB2⟩
          case round =>
            clear HLI HO2 X HNE hB2 cX cTB
            obtain ⟨i, b, V, M, hil, rfl, rfl, rfl, HL, HO, X, HNE, hbx⟩ := hrel
            obtain ⟨wx, hwx⟩ : ∃ W : World, W = wr := ⟨_, rfl⟩
            rw [← hwx] at HO X hbx ⊢
            clear hwx
            have hBx : Below w.heap.size w wx := hB1.trans (hbx.mono hB1.size)
            have TB := TB0.below hbx TB0.lt
            have cTB := TB.cell
            have cX := X.cell
            by_cases hi : i < t.length
            · obtain ⟨bt, ot, hAt, hblt, pt, qt⟩ := HT.out.span i hi
              subst hAt
              obtain ⟨yf, yt, hy⟩ : ∃ x0 x1 : Int, t[i] = (x0, x1) := ⟨_, _, rfl⟩
              rw [hy] at pt qt
              simp only at pt qt
              have et : wx.cell? ⟨bt, ot + i * 2, none⟩ = some (.int .i64 yf) := by rw [hBx.cell (by show bt < _; omega)]; exact pt
              have gt : wx.cell? ⟨bt, ot + i * 2 + 1, none⟩ = some (.int .i64 yt) := by rw [hBx.cell (by show bt < _; omega)]; exact qt
              clear pt qt
              by_cases hlt : yf < xt
              · by_cases hg : b < yf
                · have dia : decide ((i : Int) < (t.length : Int)) = true := by simp; omega
                  have dib : decide (i < t.length) = true := by simp; omega
                  have dlt : decide (yf < xt) = true := decide_eq_true hlt
                  have dg : decide (yf > b) = true := decide_eq_true hg
                  have HN := hide (HL.out.gap hi hy hlt hg)
                  have HY := hide hy
                  clear hy
                  rw [show max b (yf, yt).2 = if b < yt then yt else b from max_if b yt] at HN
                  have HLN := hide (HL.out.len h1000 h1001)
                  clear HL
                  go_upto_region 10 with fail
                  go_quiet (fail)
                  obtain ⟨w3, hw3⟩ : ∃ W : World, W = wx.drewN nq := ⟨_, rfl⟩
                  first | rw [← hw3] | skip
                  have hB3 : Below w1.heap.size w1 w3 := by rw [hw3]; exact below_drewN hbx _
                  have O3 := HO.out.drewN nq
                  have X := X.drewN nq
                  rw [← hw3] at O3 X
                  have TB := TB0.below hB3 TB0.lt
                  have e3 : w3.cell? ⟨bt, ot + i * 2, none⟩ = some (.int .i64 yf) := by rw [hw3]; exact et
                  have g3 : w3.cell? ⟨bt, ot + i * 2 + 1, none⟩ = some (.int .i64 yt) := by rw [hw3]; exact gt
                  clear hw3 cTB cX et gt
                  have cTB := TB.cell
                  have cX := X.cell
                  have HL9 := hide (show M.length + [(b, yf)].length ≤ 1000000000 by have := HLN.out; rw [List.length_singleton]; omega)
                  have hz7 := hB3.size
                  have R7 : RdL LSp (w3.alloc (.cells #[.int .i64 b, .int .i64 yf] 31)) (w3.heap.size + 1) (.slice (some ⟨w3.heap.size, 0, none⟩) 1 1) [(b, yf)] := by
                    have := RdL.one_ (L := LSp) (x := (b, yf)) (Blk.new w3 31 #[.int .i64 b, .int .i64 yf]) rfl
                    simpa using this
                  go_wp2_with (at_builtin; refine wpList_appL LSp w1 (by rfl) (.tmp 64) (.tmp 73) _ _ (by rfl) rfl rfl w1.heap.size _ _ (by rfl) (O3.alloc _) (hB3.alloc hB3.size _) (by simp; omega) _ [(b, yf)] _ (by rfl) R7 (by decide) HL9.out ?_)
                  intro v7 w7 O7 hB7 hg7 hv7
                  clear R7 hz7
                  have X7 := Blk.grownL (X.alloc _) hg7 HNE.out
                  have HNE7 := hide (show v7.ownBlock ≠ some xb from fun e => by
                    rcases hv7 with h | h
                    · exact HNE.out (h ▸ e)
                    · rw [h] at e; simp at e; have := X.lt; omega)
                  have g7 : w7.cell? ⟨bt, ot + i * 2 + 1, none⟩ = some (.int .i64 yt) := by rw [← g3, hB7.cell (by show bt < _; have := hB1.size; omega), hB3.cell (by show bt < _; have := hB1.size; omega)]
                  have TB := TB0.below hB7 TB0.lt
                  clear hg7 hv7 cTB cX e3 g3
                  have cTB := TB.cell
                  have cX := X7.cell
                  have HJ := hide O7
                  clear O7 O3 HL9
                  go_wp2_with fail
                  go_roundw
                  case rel => exact ⟨i + 1, _, _, _, by omega, rfl, rfl, by go_num, HN, HJ, X7, HNE7, hB7⟩
                  case measure => simp [intOf] <;> omega
                · have dia : decide ((i : Int) < (t.length : Int)) = true := by simp; omega
                  have dib : decide (i < t.length) = true := by simp; omega
                  have dlt : decide (yf < xt) = true := decide_eq_true hlt
                  have dg : decide (yf > b) = false := decide_eq_false hg
                  have HN := hide (HL.out.same hi hy hlt hg)
                  have HY := hide hy
                  clear hy
                  rw [show max b (yf, yt).2 = if b < yt then yt else b from max_if b yt] at HN
                  have HLN := hide (HL.out.len h1000 h1001)
                  clear HL
                  go_upto_region 10 with fail
                  go_quiet (fail)
                  obtain ⟨w3, hw3⟩ : ∃ W : World, W = wx.drewN nq := ⟨_, rfl⟩
                  first | rw [← hw3] | skip
                  have hB3 : Below w1.heap.size w1 w3 := by rw [hw3]; exact below_drewN hbx _
                  have O3 := HO.out.drewN nq
                  have X := X.drewN nq
                  rw [← hw3] at O3 X
                  have TB := TB0.below hB3 TB0.lt
                  have e3 : w3.cell? ⟨bt, ot + i * 2, none⟩ = some (.int .i64 yf) := by rw [hw3]; exact et
                  have g3 : w3.cell? ⟨bt, ot + i * 2 + 1, none⟩ = some (.int .i64 yt) := by rw [hw3]; exact gt
                  clear hw3 cTB cX et gt
                  have cTB := TB.cell
                  have cX := X.cell
                  have HJ := hide O3
                  clear O3
                  go_wp2_with fail
                  go_roundw
                  case rel => exact ⟨i + 1, _, _, _, by omega, rfl, rfl, by go_num, HN, HJ, X, HNE, hB3⟩
                  case measure => simp [intOf] <;> omega
              · have dia : decide ((i : Int) < (t.length : Int)) = true := by simp; omega
                have dib : decide (i < t.length) = true := by simp; omega
                have dlt : decide (yf < xt) = false := decide_eq_false hlt
                have HN := hide (HL.out.fi fun hi2 => by rw [hy]; exact hlt)
                have HY := hide hy
                clear hy
                have HLN := hide (HL.out.len h1000 h1001)
                clear HL
                go_upto_region 10 with fail
                go_quiet (fail)
                obtain ⟨w3, hw3⟩ : ∃ W : World, W = wx.drewN nq := ⟨_, rfl⟩
                first | rw [← hw3] | skip
                have hB3 : Below w1.heap.size w1 w3 := by rw [hw3]; exact below_drewN hbx _
                have O3 := HO.out.drewN nq
                have X := X.drewN nq
                rw [← hw3] at O3 X
                have TB := TB0.below hB3 TB0.lt
                clear hw3 cTB cX et gt
                go_wp2_with fail
                go_meet
                exact ⟨b, _, M, rfl, rfl, HN, HLN, O3, X, HNE, hB3⟩
            · have dia : decide ((i : Int) < (t.length : Int)) = false := by simp; omega
              have dib : decide (i < t.length) = false := by simp; omega
              have HN := hide (HL.out.fi fun hi2 => absurd hi2 hi)
              have HLN := hide (HL.out.len h1000 h1001)
              clear HL
              go_upto_region 10 with fail
              go_quiet (fail)
              obtain ⟨w3, hw3⟩ : ∃ W : World, W = wx.drewN nq := ⟨_, rfl⟩
              first | rw [← hw3] | skip
              have hB3 : Below w1.heap.size w1 w3 := by rw [hw3]; exact below_drewN hbx _
              have O3 := HO.out.drewN nq
              have X := X.drewN nq
              rw [← hw3] at O3 X
              have TB := TB0.below hB3 TB0.lt
              clear hw3 cTB cX
              go_wp2_with fail
              go_meet
              exact ⟨b, _, M, rfl, rfl, HN, HLN, O3, X, HNE, hB3⟩
        case rest =>
          clear HLI HO2 X HNE cX cTB TB
          obtain ⟨b, V3, M3, rfl, rfl, HF, HLN, HO, X, _, hB3⟩ := hcut
          have cX := X.cell
          by_cases hlt : b < xt
          · have HN := hide (HF.out.yes hlt)
            have dlt : decide (b < xt) = true := decide_eq_true hlt
            have HL9 := hide (show M3.length + [(b, xt)].length ≤ 1000000000 by have := HLN.out; rw [List.length_singleton]; omega)
            have hbc := hB3
            have O3 := HO.out
            have hz7 := hB3.size
            have R7 : RdL LSp (wc.alloc (.cells #[.int .i64 b, .int .i64 xt] 31)) (wc.heap.size + 1) (.slice (some ⟨wc.heap.size, 0, none⟩) 1 1) [(b, xt)] := by
              have := RdL.one_ (L := LSp) (x := (b, xt)) (Blk.new wc 31 #[.int .i64 b, .int .i64 xt]) rfl
              simpa using this
            go_wp2_with (at_builtin; refine wpList_appL LSp w1 (by rfl) (.tmp 87) (.tmp 92) _ _ (by rfl) rfl rfl w1.heap.size _ _ (by rfl) (O3.alloc _) (hB3.alloc hB3.size _) (by simp; omega) _ [(b, xt)] _ (by rfl) R7 (by decide) HL9.out ?_)
            intro v7 w7 O7 hB7 _ _
            clear R7 hz7
            have HJ := hide O7
            clear O7 O3 HL9
            go_wp2_with fail
            go_roundw
            case rel => exact ⟨k + 1, j2, _, _, by omega, hj2, rfl, rfl, by go_num, HJ, HN, hB7⟩
            case measure => simp [intOf] <;> omega
          · have HN := hide (HF.out.no hlt)
            have dlt : decide (b < xt) = false := decide_eq_false hlt
            go_wp2_with fail
            go_roundw
            case rel => exact ⟨k + 1, j2, _, _, by omega, hj2, rfl, rfl, by go_num, HO, HN, hB3⟩
            case measure => simp [intOf] <;> omega
    · have HX := hide (show M = lessL s t from HM.out.fin (by omega))
      obtain ⟨A5, k5, hv5, _, _⟩ := HO.out.rd.form
      have hBw8 := hB1.trans (hb.mono hB1.size)
      have Z8 := Z.below hb Z.lt
      have cZ := Z8.cell
      have fZ := Z8.frozen 0
      have hlz := Z8.lt
      have hbz := hb.size
      have HR8 := hide (HO.out.rd_set (g := w.heap.size + 2) (i := 0) (by omega) V)
      subst hv5
      clear HO HM hb
      go_wp2_with fail
      refine bodyPost_ret (v := .agg #[.slice A5 M.length k5]) (by simp [results, Tryd.results8, go_sem, cZ, fZ]) rfl ?_
      refine ⟨_, rfl, ?_, below_set hBw8 (by omega) _⟩
      rw [← HX.out]
      exact HR8.out

end Go.Proofs.YtfcbmajogmojbaaDoor
