/-
  What both sets have.
-/
import Derived.Test.YtfcbmajogmojbaaDoorRngD
import Derived.Deep.RegionHeld3
namespace Go.Proofs.YtfcbmajogmojbaaDoor
open Go.RowKit
set_option linter.unusedVariables false
set_option linter.unusedSimpArgs false

theorem below_via {B : Nat} {a X w' : World} {p : Prop} (h : Below B a X ∧ p) (hB : B ≤ a.heap.size) (k : Below X.heap.size X w') : Below B a w' := h.1.trans (k.mono (Nat.le_trans hB h.1.size))
theorem new_below {X w' : World} {t : TypeId} {cs : Array Value} (hb : Below (X.alloc (.cells cs t)).heap.size (X.alloc (.cells cs t)) w') : Blk w' X.heap.size t cs := (Blk.new X t cs).below hb (by simp)
theorem new_below_d {X w' : World} {t : TypeId} {cs : Array Value} (hb : Below (X.alloc (.cells cs t)).drew.heap.size (X.alloc (.cells cs t)).drew w') : Blk w' X.heap.size t cs := (Blk.new X t cs).drew.below hb (by simp)
theorem keep_below {X w' : World} {g : Nat} {t : TypeId} {cs : Array Value} (h : Blk X g t cs) (hb : Below X.heap.size X w') : Blk w' g t cs := h.below hb h.lt
theorem set2 {w : World} {g : Nat} {t : TypeId} {a0 a1 : Value} (h : Blk w g t #[a0, a1]) (b0 b1 : Value) : Blk ((w.setCell ⟨g, 0, none⟩ b0).setCell ⟨g, 1, none⟩ b1) g t #[b0, b1] := by
  have := (h.set_ 0 b0).set_ 1 b1
  simpa using this
theorem ok_right {x : Sp} (h : okS x) : rightB x.1 x.2 = true := by
  unfold okS at h; unfold rightB; exact decide_eq_true ⟨h.1, by omega, h.2.2⟩
theorem meet_pack (a b c d : Int) (hx : okS (a, b)) (hy : okS (c, d)) : ∃ (m1 m2 : Int) (ok : Bool), (∀ W, Calls Tryd.prog 36 #[.agg #[.int .i64 a, .int .i64 b], .agg #[.int .i64 c, .int .i64 d]] W fun e w' => e = .returned (.tuple #[.agg #[.int .i64 m1, .int .i64 m2], .bool ok]) ∧ Below W.heap.size W w') ∧
    (if max a c < min b d then [(max a c, min b d)] else []) = if ok = true then [(m1, m2)] else [] := by
  by_cases h : max a c < min b d
  · refine ⟨max a c, min b d, true, fun W => ?_, by rw [if_pos h, if_pos rfl]⟩
    have := smeet_any a b c d W
    rw [show meetL (a, b) (c, d) = some (max a c, min b d) by unfold meetL; rw [if_pos ⟨ok_right hx, ok_right hy, h⟩]] at this
    exact this
  · refine ⟨0, 0, false, fun W => ?_, by rw [if_neg h]; rfl⟩
    have := smeet_any a b c d W
    rw [show meetL (a, b) (c, d) = none by unfold meetL; rw [if_neg (fun h9 => h h9.2.2)]] at this
    exact this

set_option maxRecDepth 100000 in
set_option maxHeartbeats 8000000 in
theorem and_any (v u : Value) (s t : List Sp) (w : World) (hs : RdL LSp w w.heap.size v s) (ht : RdL LSp w w.heap.size u t) (hNs : Nf s) (hNt : Nf t) (hsl : s.length ≤ 500000) (htl : t.length ≤ 500000) : Calls Tryd.prog 19 #[.agg #[v], .agg #[u]] w (SetOk (andL s t) w) := by
  obtain ⟨A, c, rfl, hlc, hc⟩ := hs.form
  obtain ⟨A2, c2, rfl, hlc2, hc2⟩ := ht.form
  have HS := hide hs
  have HT := hide ht
  clear hs ht
  have HNS := hide hNs
  have HNT := hide hNt
  clear hNs hNt
  go_enter Tryd.func19, Tryd.ntmps19
  go_upto_region 1 with fail
  obtain ⟨w1, hw1⟩ : ∃ w1 : World, w1 = (((w).alloc (.cells #[.slice A s.length c] 28)).alloc (.cells #[.slice A2 t.length c2] 28)).alloc (.cells #[.slice none 0 0] 28) := ⟨_, rfl⟩
  rw [← hw1]
  have hB1 : Below w.heap.size w w1 := by rw [hw1]; exact ((((Below.refl _ _).alloc (Nat.le_refl _) _).alloc (by simp; try omega) _).alloc (by simp; try omega) _)
  have SB : Blk w1 (w.heap.size) 28 #[.slice A s.length c] := by rw [hw1]; exact (((Blk.new _ _ _).alloc _).alloc _)
  have TB : Blk w1 (w.heap.size + 1) 28 #[.slice A2 t.length c2] := by rw [hw1]; exact ((Blk.new' (by simp)).alloc _)
  have Z : Blk w1 (w.heap.size + 2) 28 #[.slice none 0 0] := by rw [hw1]; exact (Blk.new' (by simp))
  clear hw1
  have cSB := SB.cell
  have cTB := TB.cell
  have cZ := Z.cell
  have SB0 := SB
  have TB0 := TB
  have lZ := Z.lt
  clear cZ
  go_wp2_with fail
  go_loopw [5, 6, 7, 8, 9] (fun c5 c6 c7 _ _ wr => ∃ (i j : Nat) (V : Value) (M : List Sp), i ≤ s.length ∧ j ≤ t.length ∧ V = c5 ∧ c6 = .int .i64 (i : Int) ∧ c7 = .int .i64 (j : Int) ∧ Hid (OwnL LSp w1.heap.size wr V M) ∧ Hid (And_ s t i j M) ∧ Below w1.heap.size w1 wr) (fun _ c6 c7 _ _ _ => (s.length - (intOf c6).toNat) + (t.length - (intOf c7).toNat))
  case atStart => exact ⟨0, 0, _, [], Nat.zero_le _, Nat.zero_le _, rfl, rfl, rfl, OwnL.nil _ _ _, And_.start s t, Below.refl _ _⟩
  case round =>
    clear SB TB cSB cTB
    obtain ⟨i, j, V, M, hil, hjl, rfl, rfl, rfl, HO, HM, hb⟩ := hrel
    have SB := SB0.below hb SB0.lt
    have TB := TB0.below hb TB0.lt
    have cSB := SB.cell
    have cTB := TB.cell
    by_cases hi : i < s.length
    · by_cases hj : j < t.length
      · have hBr : Below w.heap.size w wr := hB1.trans (hb.mono hB1.size)
        obtain ⟨bs, os, hAs, hbls, ps, qs⟩ := HS.out.span i hi
        subst hAs
        obtain ⟨fs, ts, hxs⟩ : ∃ x0 x1 : Int, s[i] = (x0, x1) := ⟨_, _, rfl⟩
        rw [hxs] at ps qs
        simp only at ps qs
        have es : wr.cell? ⟨bs, os + i * 2, none⟩ = some (.int .i64 fs) := by rw [hBr.cell (by show bs < _; omega)]; exact ps
        have gs : wr.cell? ⟨bs, os + i * 2 + 1, none⟩ = some (.int .i64 ts) := by rw [hBr.cell (by show bs < _; omega)]; exact qs
        clear ps qs
        obtain ⟨bt, ot, hAt, hblt, pt, qt⟩ := HT.out.span j hj
        subst hAt
        obtain ⟨ft, tt, hxt⟩ : ∃ x0 x1 : Int, t[j] = (x0, x1) := ⟨_, _, rfl⟩
        rw [hxt] at pt qt
        simp only at pt qt
        have et : wr.cell? ⟨bt, ot + j * 2, none⟩ = some (.int .i64 ft) := by rw [hBr.cell (by show bt < _; omega)]; exact pt
        have gt : wr.cell? ⟨bt, ot + j * 2 + 1, none⟩ = some (.int .i64 tt) := by rw [hBr.cell (by show bt < _; omega)]; exact qt
        clear pt qt
        have gs0 : w.cell? ⟨bs, os + i * 2 + 1, none⟩ = some (.int .i64 ts) := by rw [← hBr.cell (by show bs < _; omega)]; exact gs
        have gt0 : w.cell? ⟨bt, ot + j * 2 + 1, none⟩ = some (.int .i64 tt) := by rw [← hBr.cell (by show bt < _; omega)]; exact gt
        have oks := nf_ok HNS.out s[i] (List.getElem_mem hi)
        have okt := nf_ok HNT.out t[j] (List.getElem_mem hj)
        rw [hxs] at oks
        rw [hxt] at okt
        obtain ⟨m1, m2, ok, hmt, hif⟩ := meet_pack fs ts ft tt oks okt
        have HMT := hide hmt
        have HIF := hide hif
        have HN := hide (HM.out.next hi hj hxs hxt)
        have hMl := HM.out.len
        have hMl2 : M.length ≤ 1000000 := by omega
        have dia : decide ((i : Int) < (s.length : Int)) = true := by simp; omega
        have dib : decide (i < s.length) = true := by simp; omega
        have dja : decide ((j : Int) < (t.length : Int)) = true := by simp; omega
        have djb : decide (j < t.length) = true := by simp; omega
        have g1 : (0 : Int) ≤ (i : Int) := by omega
        have g2 : (i : Int) < (s.length : Int) := by omega
        have g3 : (0 : Int) ≤ (j : Int) := by omega
        have g4 : (j : Int) < (t.length : Int) := by omega
        have HXs := hide hxs
        have HXt := hide hxt
        have HGS := hide gs0
        have HGT := hide gt0
        clear hmt hif hxs hxt oks okt HM hMl gs0 gt0
        obtain ⟨w2, hw2⟩ : ∃ W : World, W = wr := ⟨_, rfl⟩
        rw [← hw2] at HO hb SB TB cSB cTB es gs et gt hBr ⊢
        clear hw2
        have hbr := hBr.size
        have SMK := hide (show ∀ W : World, Below w2.heap.size w2 W → (Below w2.heap.size w2 W ∧ W.cell? ⟨w.heap.size, 0, none⟩ = some (.slice (some ⟨bs, os, none⟩) s.length c) ∧ W.cell? ⟨w.heap.size + 1, 0, none⟩ = some (.slice (some ⟨bt, ot, none⟩) t.length c2) ∧ W.cell? ⟨bs, os + i * 2, none⟩ = some (.int .i64 fs) ∧ W.cell? ⟨bs, os + i * 2 + 1, none⟩ = some (.int .i64 ts) ∧ W.cell? ⟨bt, ot + j * 2, none⟩ = some (.int .i64 ft) ∧ W.cell? ⟨bt, ot + j * 2 + 1, none⟩ = some (.int .i64 tt)) from fun W h => ⟨h, (SB.below h SB.lt).cell 0, (TB.below h TB.lt).cell 0, (h.cell (show bs < _ by omega)).trans es, (h.cell (show bs < _ by omega)).trans gs, (h.cell (show bt < _ by omega)).trans et, (h.cell (show bt < _ by omega)).trans gt⟩)
        go_upto_region 4 with fail
        go_cut [8, 9] (fun p8 p9 wx => ∃ g : Nat, p8 = .pointer (some ⟨g, 0, none⟩) ∧ p9 = .bool ok ∧ Blk wx g 31 #[.int .i64 m1, .int .i64 m2] ∧ Below w2.heap.size w2 wx)
        case first =>
          clear HN HXs HXt HGS HGT HIF HS HT HNS HNT HO hB1 Z lZ SB0 TB0 SB TB cSB cTB es gs et gt hBr hb dia dib dja djb
          go_region_held3 (fun W => Below w2.heap.size w2 W ∧ W.cell? ⟨w.heap.size, 0, none⟩ = some (.slice (some ⟨bs, os, none⟩) s.length c) ∧ W.cell? ⟨w.heap.size + 1, 0, none⟩ = some (.slice (some ⟨bt, ot, none⟩) t.length c2) ∧ W.cell? ⟨bs, os + i * 2, none⟩ = some (.int .i64 fs) ∧ W.cell? ⟨bs, os + i * 2 + 1, none⟩ = some (.int .i64 ts) ∧ W.cell? ⟨bt, ot + j * 2, none⟩ = some (.int .i64 ft) ∧ W.cell? ⟨bt, ot + j * 2 + 1, none⟩ = some (.int .i64 tt)) ((refine SMK.out _ ?_; with_reducible (repeat (first | exact hL5 | refine below_set ?_ (by first | exact Nat.le_refl _ | exact Nat.le_succ _ | exact Below.size hL5 | exact Nat.le_succ_of_le (Below.size hL5) | exact Below.size (by assumption) | (simp; done) | (simp; omega) | (have := Below.size hL5; simp; omega)) _ | refine Below.alloc ?_ (by first | exact Nat.le_refl _ | exact Nat.le_succ _ | exact Below.size hL5 | exact Nat.le_succ_of_le (Below.size hL5) | exact Below.size (by assumption) | (simp; done) | (simp; omega) | (have := Below.size hL5; simp; omega)) _ | refine Below.drew ?_ | exact Below.refl _ _)))) (first | (go_at_call 36; refine (HMT.out _).mono ?_; rintro e w5 ⟨rfl, hb5⟩; with_reducible have hL5 := below_via (by assumption) (Nat.le_refl _) hb5; (first | (with_reducible have Z5 := new_below hb5) | (with_reducible have Z5 := new_below_d hb5) | (with_reducible have Z5 := keep_below (t := 31) (cs := #[.int .i64 0, .int .i64 0]) (by assumption) hb5) | skip); (try (have cZ5 := Z5.cell; have fZ5 := Z5.frozen; have lZ5 := Z5.lt))))
          all_goals (go_wp2_with fail; go_meet)
          all_goals (first | exact ⟨_, rfl, rfl, Blk.new _ _ _, Below.alloc hL5 (Below.size hL5) _⟩ | exact ⟨_, rfl, rfl, set2 Z5 _ _, below_set (below_set hL5 (by first | exact Nat.le_refl _ | exact Below.size (by assumption)) _) (by first | exact Nat.le_refl _ | exact Below.size (by assumption)) _⟩)
        case rest =>
          obtain ⟨g, rfl, rfl, X, hLc⟩ := hcut
          have O3 := HO.out.below hLc (Nat.le_refl _)
          have hB3 := hb.trans (hLc.mono hb.size)
          have gs0 := HGS.out
          have gt0 := HGT.out
          clear SMK HMT SB TB cSB cTB es gs et gt HO hLc hb hBr HGS HGT dia dib dja djb g1 g2 g3 g4
          cases ok
          · have HNM := hide (show And_ s t (if ts ≤ tt then i + 1 else i) (if ts ≤ tt then j else j + 1) M from by have := HN.out; simp only [HIF.out, Bool.false_eq_true, if_false, List.append_nil] at this; exact this)
            clear HN
            obtain ⟨w7, hw7⟩ : ∃ W : World, W = wc := ⟨_, rfl⟩
            rw [← hw7] at O3 hB3 X ⊢
            clear hw7
            have hBw7 : Below w.heap.size w w7 := hB1.trans (hB3.mono hB1.size)
            have SB := SB0.below hB3 SB0.lt
            have TB := TB0.below hB3 TB0.lt
            have cSB := SB.cell
            have cTB := TB.cell
            have gs : w7.cell? ⟨bs, os + i * 2 + 1, none⟩ = some (.int .i64 ts) := by rw [hBw7.cell (by show bs < _; omega)]; exact gs0
            have gt : w7.cell? ⟨bt, ot + j * 2 + 1, none⟩ = some (.int .i64 tt) := by rw [hBw7.cell (by show bt < _; omega)]; exact gt0
            have g1 : (0 : Int) ≤ (i : Int) := by omega
            have g2 : (i : Int) < (s.length : Int) := by omega
            have g3 : (0 : Int) ≤ (j : Int) := by omega
            have g4 : (j : Int) < (t.length : Int) := by omega
            have HO7 := hide O3
            clear O3
            by_cases hle : ts ≤ tt
            · have dle : decide (ts ≤ tt) = true := decide_eq_true hle
              have HNM2 := hide (show And_ s t (i + 1) (j) M from by have := HNM.out; rw [if_pos hle, if_pos hle] at this; exact this)
              clear HNM
              go_upto_region 7 with fail
              go_quiet (fail)
              obtain ⟨w8, hw8⟩ : ∃ W : World, W = w7.drewN nq := ⟨_, rfl⟩
              first | rw [← hw8] | skip
              have hB8 : Below w1.heap.size w1 w8 := by rw [hw8]; exact below_drewN hB3 _
              have HO8 := HO7.out.drewN nq
              rw [← hw8] at HO8
              replace HO8 := hide HO8
              clear hw8 HO7 gs gt cSB cTB
              go_wp2_with fail
              go_roundw
              case rel => exact ⟨i + 1, j, _, _, by omega, by omega, rfl, by go_num, by go_num, HO8, HNM2, hB8⟩
              case measure => simp [intOf] <;> omega
            · have dle : decide (ts ≤ tt) = false := decide_eq_false hle
              have HNM2 := hide (show And_ s t (i) (j + 1) M from by have := HNM.out; rw [if_neg hle, if_neg hle] at this; exact this)
              clear HNM
              go_upto_region 7 with fail
              go_quiet (fail)
              obtain ⟨w8, hw8⟩ : ∃ W : World, W = w7.drewN nq := ⟨_, rfl⟩
              first | rw [← hw8] | skip
              have hB8 : Below w1.heap.size w1 w8 := by rw [hw8]; exact below_drewN hB3 _
              have HO8 := HO7.out.drewN nq
              rw [← hw8] at HO8
              replace HO8 := hide HO8
              clear hw8 HO7 gs gt cSB cTB
              go_wp2_with fail
              go_roundw
              case rel => exact ⟨i, j + 1, _, _, by omega, by omega, rfl, by go_num, by go_num, HO8, HNM2, hB8⟩
              case measure => simp [intOf] <;> omega
          · have HNM := hide (show And_ s t (if ts ≤ tt then i + 1 else i) (if ts ≤ tt then j else j + 1) (M ++ [(m1, m2)]) from by have := HN.out; rw [HIF.out, if_pos rfl] at this; exact this)
            clear HN
            have HL9 := hide (show M.length + [(m1, m2)].length ≤ 1000000000 by rw [List.length_singleton]; omega)
            have cX := X.cell
            have hz7 := hB3.size
            have R7 : RdL LSp (wc.alloc (.cells #[.int .i64 m1, .int .i64 m2] 31)) (wc.heap.size + 1) (.slice (some ⟨wc.heap.size, 0, none⟩) 1 1) [(m1, m2)] := by
              have := RdL.one_ (L := LSp) (x := (m1, m2)) (Blk.new wc 31 #[.int .i64 m1, .int .i64 m2]) rfl
              simpa using this
            go_wp2_with (at_builtin; refine wpList_appL LSp w1 (by rfl) (.tmp 37) (.tmp 39) _ _ (by rfl) rfl rfl w1.heap.size _ _ (by rfl) (O3.alloc _) (hB3.alloc hB3.size _) (by simp; omega) _ [(m1, m2)] _ (by rfl) R7 (by decide) HL9.out ?_)
            intro v7 w7 O7 hB7 _ _
            clear R7 hz7
            have hBw7 : Below w.heap.size w w7 := hB1.trans (hB7.mono hB1.size)
            have SB := SB0.below hB7 SB0.lt
            have TB := TB0.below hB7 TB0.lt
            have cSB := SB.cell
            have cTB := TB.cell
            have gs : w7.cell? ⟨bs, os + i * 2 + 1, none⟩ = some (.int .i64 ts) := by rw [hBw7.cell (by show bs < _; omega)]; exact gs0
            have gt : w7.cell? ⟨bt, ot + j * 2 + 1, none⟩ = some (.int .i64 tt) := by rw [hBw7.cell (by show bt < _; omega)]; exact gt0
            have g1 : (0 : Int) ≤ (i : Int) := by omega
            have g2 : (i : Int) < (s.length : Int) := by omega
            have g3 : (0 : Int) ≤ (j : Int) := by omega
            have g4 : (j : Int) < (t.length : Int) := by omega
            have HO7 := hide O7
            clear O7
            by_cases hle : ts ≤ tt
            · have dle : decide (ts ≤ tt) = true := decide_eq_true hle
              have HNM2 := hide (show And_ s t (i + 1) (j) (M ++ [(m1, m2)]) from by have := HNM.out; rw [if_pos hle, if_pos hle] at this; exact this)
              clear HNM
              go_upto_region 7 with fail
              go_quiet (fail)
              obtain ⟨w8, hw8⟩ : ∃ W : World, W = w7.drewN nq := ⟨_, rfl⟩
              first | rw [← hw8] | skip
              have hB8 : Below w1.heap.size w1 w8 := by rw [hw8]; exact below_drewN hB7 _
              have HO8 := HO7.out.drewN nq
              rw [← hw8] at HO8
              replace HO8 := hide HO8
              clear hw8 HO7 gs gt cSB cTB
              go_wp2_with fail
              go_roundw
              case rel => exact ⟨i + 1, j, _, _, by omega, by omega, rfl, by go_num, by go_num, HO8, HNM2, hB8⟩
              case measure => simp [intOf] <;> omega
            · have dle : decide (ts ≤ tt) = false := decide_eq_false hle
              have HNM2 := hide (show And_ s t (i) (j + 1) (M ++ [(m1, m2)]) from by have := HNM.out; rw [if_neg hle, if_neg hle] at this; exact this)
              clear HNM
              go_upto_region 7 with fail
              go_quiet (fail)
              obtain ⟨w8, hw8⟩ : ∃ W : World, W = w7.drewN nq := ⟨_, rfl⟩
              first | rw [← hw8] | skip
              have hB8 : Below w1.heap.size w1 w8 := by rw [hw8]; exact below_drewN hB7 _
              have HO8 := HO7.out.drewN nq
              rw [← hw8] at HO8
              replace HO8 := hide HO8
              clear hw8 HO7 gs gt cSB cTB
              go_wp2_with fail
              go_roundw
              case rel => exact ⟨i, j + 1, _, _, by omega, by omega, rfl, by go_num, by go_num, HO8, HNM2, hB8⟩
              case measure => simp [intOf] <;> omega
      · have HX := hide (show M = andL s t from HM.out.fin (.inr (by omega)))
        have dia : decide ((i : Int) < (s.length : Int)) = true := by simp; omega
        have dib : decide (i < s.length) = true := by simp; omega
        have dja : decide ((j : Int) < (t.length : Int)) = false := by simp; omega
        have djb : decide (j < t.length) = false := by simp; omega
        obtain ⟨A5, k5, hv5, _, _⟩ := HO.out.rd.form
        have hBw8 := hB1.trans (hb.mono hB1.size)
        have Z8 := Z.below hb Z.lt
        have cZ := Z8.cell
        have fZ := Z8.frozen 0
        have hlz := Z8.lt
        have hbz := hb.size
        have HR8 := hide (HO.out.rd_set (g := w.heap.size + 2) (i := 0) (by omega) V)
        subst hv5
        clear HO HM hb
        go_wp2_with fail
        refine bodyPost_ret (v := .agg #[.slice A5 M.length k5]) (by simp [results, Tryd.results19, go_sem, cZ, fZ]) rfl ?_
        refine ⟨_, rfl, ?_, below_set hBw8 (by omega) _⟩
        rw [← HX.out]
        exact HR8.out
    · have HX := hide (show M = andL s t from HM.out.fin (.inl (by omega)))
      have dia : decide ((i : Int) < (s.length : Int)) = false := by simp; omega
      have dib : decide (i < s.length) = false := by simp; omega
      obtain ⟨A5, k5, hv5, _, _⟩ := HO.out.rd.form
      have hBw8 := hB1.trans (hb.mono hB1.size)
      have Z8 := Z.below hb Z.lt
      have cZ := Z8.cell
      have fZ := Z8.frozen 0
      have hlz := Z8.lt
      have hbz := hb.size
      have HR8 := hide (HO.out.rd_set (g := w.heap.size + 2) (i := 0) (by omega) V)
      subst hv5
      clear HO HM hb
      go_wp2_with fail
      refine bodyPost_ret (v := .agg #[.slice A5 M.length k5]) (by simp [results, Tryd.results19, go_sem, cZ, fZ]) rfl ?_
      refine ⟨_, rfl, ?_, below_set hBw8 (by omega) _⟩
      rw [← HX.out]
      exact HR8.out

end Go.Proofs.YtfcbmajogmojbaaDoor
