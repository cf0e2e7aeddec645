/-
  What a plan fetches.
-/
import Derived.Test.YtfcbmajogmojbaaDoorPlFa
import Derived.Deep.RegionHeld3
namespace Go.Proofs.YtfcbmajogmojbaaDoor
open Go.RowKit Go.Shelf
set_option linter.unusedVariables false
set_option linter.unusedSimpArgs false

set_option maxRecDepth 100000 in
set_option maxHeartbeats 8000000 in
theorem plan_any (v u : Value) (gp f : List Sp) (h : PlanOk gp f) (w : World) (hr : RdL LSp w w.heap.size v gp) (hs : RdL LSp w w.heap.size u f) : Calls Tryd.prog 21 #[.agg #[v], .agg #[u], .int .i64 120, .agg #[.int .i64 4, .int .i64 0, .int .i64 64, .int .i64 8, .int .i64 2, .int .i64 1, .int .i64 8, .int .i64 400, .int .i64 400, .int .i64 16]] w (PlanIs (planL (wideL gp)) w) := by
  obtain ⟨A, c, rfl, hlc, hc⟩ := hr.form
  obtain ⟨A2, c2, rfl, hlc2, hc2⟩ := hs.form
  have HR := hide hr
  have HF := hide hs
  clear hr hs hlc hc hlc2 hc2
  go_enter Tryd.func21, Tryd.ntmps21
  go_upto_region 1 with fail
  obtain ⟨w1, hw1⟩ : ∃ w1 : World, w1 = (((w).alloc (.cells #[.slice A gp.length c] 28)).alloc (.cells #[.slice A2 f.length c2] 28)).alloc (.cells #[.int .i64 4, .int .i64 0, .int .i64 64, .int .i64 8, .int .i64 2, .int .i64 1, .int .i64 8, .int .i64 400, .int .i64 400, .int .i64 16] 47) := ⟨_, rfl⟩
  rw [← hw1]
  have hB1 : Below w.heap.size w w1 := by rw [hw1]; exact ((((Below.refl _ _).alloc (Nat.le_refl _) _).alloc (by simp; try omega) _).alloc (by simp; try omega) _)
  have G : Blk w1 (w.heap.size) 28 #[.slice A gp.length c] := by rw [hw1]; exact (((Blk.new _ _ _).alloc _).alloc _)
  have E : Blk w1 (w.heap.size + 1) 28 #[.slice A2 f.length c2] := by rw [hw1]; exact ((Blk.new' (by simp)).alloc _)
  have C : Blk w1 (w.heap.size + 2) 47 #[.int .i64 4, .int .i64 0, .int .i64 64, .int .i64 8, .int .i64 2, .int .i64 1, .int .i64 8, .int .i64 400, .int .i64 400, .int .i64 16] := by rw [hw1]; exact (Blk.new' (by simp))
  clear hw1
  have cG := G.cell
  have cE := E.cell
  have cC := C.cell
  have HR1 := hide ((HR.out.below hB1).mono hB1.size)
  have HF1 := hide ((HF.out.below hB1).mono hB1.size)
  go_wp2_with fail
  refine (check_any _ _ gp f h w1 HR1.out HF1.out).mono ?_
  rintro e w2 ⟨v2, rfl, h2, hb2⟩
  obtain ⟨A3, c3, hv2, _, _⟩ := h2.form
  subst hv2
  have H2 := hide h2
  have hB2 := hB1.trans (hb2.mono hB1.size)
  replace E := E.below hb2 E.lt
  replace C := C.below hb2 C.lt
  have HZ2 := hide (show w.heap.size + 3 ≤ w2.heap.size by have := C.lt; omega)
  clear cG cE cC G h2 hb2 hB1 HR1 HF1
  go_upto_region 4 with fail
  obtain ⟨w3, hw3⟩ : ∃ W : World, W = w2.alloc (.cells #[.slice A3 (wideL gp).length c3] 28) := ⟨_, rfl⟩
  rw [← hw3]
  have X : Blk w3 w2.heap.size 28 #[.slice A3 (wideL gp).length c3] := by rw [hw3]; exact Blk.new _ _ _
  have hb3 : Below w2.heap.size w2 w3 := by rw [hw3]; exact (Below.refl _ _).alloc (Nat.le_refl _) _
  have hB3 := hB2.trans (hb3.mono hB2.size)
  replace E := E.below hb3 E.lt
  replace C := C.below hb3 C.lt
  have H3 := hide ((H2.out.below hb3).mono hb3.size)
  clear hw3 hb3 H2 hB2
  have cX := X.cell
  have hwl : (wideL gp).length ≤ 1000000 := by have := h.wset.len; omega
  go_wp2_with fail
  refine (spans_any _ (wideL gp) w3 H3.out hwl).mono ?_
  rintro e wS ⟨V0, he, O0, hb4⟩
  subst he
  have hBS := hB3.trans (hb4.mono hB3.size)
  replace E := E.below hb4 E.lt
  replace C := C.below hb4 C.lt
  have hz2 : w.heap.size + 3 ≤ w2.heap.size := HZ2.out
  have hlX := X.below hb4 X.lt
  obtain ⟨g, HRW0, hg3, hgn⟩ := row_of O0 (a := w.heap.size + 3) (by have := hb4.size; have := X.lt; omega) hz2 hlX.lt
  obtain ⟨A4, c4, hv4, _, _⟩ := O0.rd.form
  subst hv4
  obtain ⟨n, hn⟩ : ∃ n, n = wS.heap.size := ⟨_, rfl⟩
  rw [← hn] at HRW0 hgn
  have hEn : w.heap.size + 1 < n := by rw [hn]; exact E.lt
  have hCn : w.heap.size + 2 < n := by rw [hn]; exact C.lt
  have hEg : w.heap.size + 1 ≠ g := by omega
  have hCg : w.heap.size + 2 ≠ g := by omega
  have HRW := hide HRW0
  have HB0 : Hid (OwnL LSp n wS (.slice none 0 0) []) := OwnL.nil _ _ _
  have hnS : n ≤ wS.heap.size := by omega
  clear HRW0 O0 hb4 hlX X H3 cX hB3 hz2 HZ2 hn
  go_wp2_with fail
  go_loopw [12, 13, 14, 15, 16] (fun c12 c13 _ _ _ wr => ∃ (V O : Value) (rest out : List Sp), O = c12 ∧ V = c13 ∧ Hid (RowS n g wr V rest) ∧ Hid (OwnL LSp n wr O out) ∧ Hid (out ++ planL rest = planL (wideL gp)) ∧ Hid (Todo f rest) ∧ Exb g n wS wr ∧ Below w.heap.size w wr) (fun c12 _ _ _ _ _ => (planL (wideL gp)).length - lenV c12)
  case atStart => exact ⟨_, _, wideL gp, [], rfl, rfl, HRW, HB0, rfl, todo_start h, Exb.refl _ _ _, hBS⟩
  case round =>
    clear HRW HB0
    obtain ⟨V, O, rest0, out, rfl, rfl, HRW, HO, HPL, HTD, hX, hBr⟩ := hrel
    have hnr : n ≤ wr.heap.size := Nat.le_trans hnS hX.1
    obtain ⟨AO, cO, hvO, _, _⟩ := HO.out.rd.form
    subst hvO
    by_cases hne : rest0 = []
    · subst hne
      obtain ⟨AV, cV, hV, _, _⟩ := HRW.out.rd.form
      have hV' : V = .slice AV 0 cV := hV
      subst hV'
      have HE := hide (show out = planL (wideL gp) by have := HPL.out; rwa [show planL [] = [] from rfl, List.append_nil] at this)
      have HO9 := hide (HO.out.mono (show w.heap.size ≤ n by omega))
      clear hV HO
      go_wp2_with fail
      go_ret2
      exact ⟨_, rfl, by rw [← HE.out]; exact HO9.out, hBr⟩
    · obtain ⟨⟨xf, xt⟩, rest, rfl⟩ : ∃ x l, rest0 = x :: l := by
        cases rest0 with
        | nil => exact absurd rfl hne
        | cons x l => exact ⟨x, l, rfl⟩
      obtain ⟨off, cv, hV, hcv1, hcv2, ex, ey, fx, lg⟩ := HRW.out.at_
      simp only at ex ey
      subst hV
      obtain ⟨⟨xr, rt⟩, hfirst, hxr, hrt⟩ := todo_first h.sf.nf HTD.out
      simp only at hfirst hxr hrt
      have hxr2 := hxr.symm
      clear hxr
      subst hxr2
      have hNr := HTD.out.1
      have hok := hNr.1
      unfold okS at hok
      simp only at hok
      have hhi := HTD.out.2.2
      clear hne
      have hBs := hBr
      have Er := hX.blk E hEn hEg
      have Cr := hX.blk C hCn hCg
      have cE := Er.cell
      have cC := Cr.cell
      have HFr := hide ((HF.out.below hBr).mono hBr.size)
      have HFC := hide (show ∀ W : World, Below wr.heap.size wr W → Calls Tryd.prog 38 #[.agg #[.slice A2 f.length c2], .int .i64 xf] W fun e w' => e = .returned (.tuple #[.agg #[.int .i64 xf, .int .i64 rt], .bool true]) ∧ Below W.heap.size W w' from fun W hW => by
        have := first_any (.slice A2 f.length c2) f xf W ((HFr.out.below hW).mono hW.size) h.sf.nf
        rw [hfirst] at this
        exact this)
      have hlr : (0 : Int) < ((rest.length + 1 : Nat) : Int) := by omega
      have hlr2 : ((rest.length + 1 : Nat) : Int) > 0 := by omega
      have SMK := hide (show ∀ W : World, Below wr.heap.size wr W → (Below wr.heap.size wr W ∧ W.cell? ⟨w.heap.size + 1, 0, none⟩ = some (.slice A2 f.length c2) ∧ W.cell? ⟨g, off, none⟩ = some (.int .i64 xf)) from fun W h => ⟨h, (Er.below h Er.lt).cell 0, (h.cell (show g < _ by omega)).trans ex⟩)
      go_upto_region 7 with fail
      go_cut [14, 15] (fun p14 p15 wx => ∃ gk : Nat, p14 = .pointer (some ⟨gk, 0, none⟩) ∧ p15 = .bool true ∧ Blk wx gk 31 #[.int .i64 xf, .int .i64 rt] ∧ wr.heap.size ≤ gk ∧ Below wr.heap.size wr wx)
      case first =>
        clear HR HF HFr HRW HO HPL HTD hX hBr E C Er Cr cE cC hfirst hNr hok hhi hBs
        go_region_held3 (fun W => Below wr.heap.size wr W ∧ W.cell? ⟨w.heap.size + 1, 0, none⟩ = some (.slice A2 f.length c2) ∧ W.cell? ⟨g, off, none⟩ = some (.int .i64 xf)) ((refine SMK.out _ ?_; with_reducible (repeat (first | exact hL5 | refine below_set ?_ (by first | exact Nat.le_refl _ | exact Nat.le_succ _ | exact Below.size hL5 | exact Nat.le_succ_of_le (Below.size hL5) | exact Below.size (by assumption) | (simp; done) | (simp; omega) | (have := Below.size hL5; simp; omega)) _ | refine Below.alloc ?_ (by first | exact Nat.le_refl _ | exact Nat.le_succ _ | exact Below.size hL5 | exact Nat.le_succ_of_le (Below.size hL5) | exact Below.size (by assumption) | (simp; done) | (simp; omega) | (have := Below.size hL5; simp; omega)) _ | refine Below.drew ?_ | exact Below.refl _ _)))) (first | (go_at_call 38; refine (HFC.out _ (And.left (by assumption))).mono ?_; rintro e w5 ⟨rfl, hb5⟩; with_reducible have hL5 := below_via (by assumption) (Nat.le_refl _) hb5; (first | (with_reducible have Z5 := new_below hb5) | (with_reducible have Z5 := new_below_d hb5) | (with_reducible have Z5 := keep_below (t := 31) (cs := #[.int .i64 0, .int .i64 0]) (by assumption) hb5) | skip); (try (have cZ5 := Z5.cell; have fZ5 := Z5.frozen; have lZ5 := Z5.lt))))
        all_goals (go_wp2_with fail; go_meet)
        all_goals (first | exact ⟨_, rfl, rfl, Blk.new _ _ _, Below.size hL5, Below.alloc hL5 (Below.size hL5) _⟩ | exact ⟨_, rfl, rfl, set2 Z5 _ _, (by first | exact Nat.le_refl _ | exact Below.size hL5 | exact Below.size (by assumption)), below_set (below_set hL5 (by first | exact Nat.le_refl _ | exact Below.size (by assumption)) _) (by first | exact Nat.le_refl _ | exact Below.size (by assumption)) _⟩)
      case rest =>
        obtain ⟨gk, rfl, rfl, K, hgk, hLc⟩ := hcut
        obtain ⟨wt, hwt⟩ : ∃ W : World, W = wc := ⟨_, rfl⟩
        rw [← hwt] at K hLc ⊢
        clear hwt
        have hgr : g < wr.heap.size := lg
        have HRW2 := hide (HRW.out.below hgn hLc hnr)
        have HO2 := hide (HO.out.below hLc (Nat.le_refl _))
        have hX2 := hX.trans (Exb.of_below hLc hnr)
        have hB2 := hBr.trans (hLc.mono hBr.size)
        have hn2 := Nat.le_trans hnr hLc.size
        have hkn : n ≤ gk := Nat.le_trans hnr hgk
        clear SMK HFC HRW HO hX hBr HFr Er Cr cE cC ex ey fx lg
        obtain ⟨wr, hwr⟩ : ∃ W : World, W = wt := ⟨_, rfl⟩
        rw [← hwr] at K HRW2 HO2 hX2 hB2 hn2 ⊢
        clear hwr hgr hBs hnr hlr hlr2 hgk hLc
        obtain ⟨off2, cv2, hV2, _, _, ex, ey, fx, lg⟩ := HRW2.out.at_
        simp only at ex ey
        cases hV2
        have Cr := hX2.blk C hCn hCg
        have cC := Cr.cell
        have cK := K.cell
        have lk := K.lt
        have HEC := hide (show ∀ W : World, Below wr.heap.size wr W → Calls Tryd.prog 39 #[(.slice (some ⟨g, off, none⟩) (rest.length + 1) cv), .int .i64 rt, .agg #[.int .i64 4, .int .i64 0, .int .i64 64, .int .i64 8, .int .i64 2, .int .i64 1, .int .i64 8, .int .i64 400, .int .i64 400, .int .i64 16]] W (I64Ok (endS (xf, xt)) W) from fun W hW => end_any _ (xf, xt) rest rt W (((HRW2.out.rd.mono hn2).below hW).mono hW.size) hNr hhi hrt)
        have hlr : (0 : Int) < ((rest.length + 1 : Nat) : Int) := by omega
        have hlr2 : ((rest.length + 1 : Nat) : Int) > 0 := by omega
        have SMK := hide (show ∀ W : World, Below wr.heap.size wr W → (Below wr.heap.size wr W ∧ W.cell? ⟨g, off, none⟩ = some (.int .i64 xf) ∧ W.cell? ⟨gk, 1, none⟩ = some (.int .i64 rt) ∧ W.cell? ⟨w.heap.size + 2, 0, none⟩ = some (.int .i64 4) ∧ W.cell? ⟨w.heap.size + 2, 1, none⟩ = some (.int .i64 0) ∧ W.cell? ⟨w.heap.size + 2, 2, none⟩ = some (.int .i64 64) ∧ W.cell? ⟨w.heap.size + 2, 3, none⟩ = some (.int .i64 8) ∧ W.cell? ⟨w.heap.size + 2, 4, none⟩ = some (.int .i64 2) ∧ W.cell? ⟨w.heap.size + 2, 5, none⟩ = some (.int .i64 1) ∧ W.cell? ⟨w.heap.size + 2, 6, none⟩ = some (.int .i64 8) ∧ W.cell? ⟨w.heap.size + 2, 7, none⟩ = some (.int .i64 400) ∧ W.cell? ⟨w.heap.size + 2, 8, none⟩ = some (.int .i64 400) ∧ W.cell? ⟨w.heap.size + 2, 9, none⟩ = some (.int .i64 16)) from fun W h => ⟨h, (h.cell (show g < _ by omega)).trans ex, (K.below h K.lt).cell 1, (Cr.below h Cr.lt).cell 0, (Cr.below h Cr.lt).cell 1, (Cr.below h Cr.lt).cell 2, (Cr.below h Cr.lt).cell 3, (Cr.below h Cr.lt).cell 4, (Cr.below h Cr.lt).cell 5, (Cr.below h Cr.lt).cell 6, (Cr.below h Cr.lt).cell 7, (Cr.below h Cr.lt).cell 8, (Cr.below h Cr.lt).cell 9⟩)
        go_upto_region 8 with fail
        go_cut [16] (fun p16 wx => ∃ gq : Nat, p16 = .pointer (some ⟨gq, 0, none⟩) ∧ Blk wx gq 31 #[.int .i64 xf, .int .i64 (endS (xf, xt))] ∧ wr.heap.size ≤ gq ∧ Below wr.heap.size wr wx)
        case first =>
          clear HR HF HRW2 HO2 HPL HTD hX2 hB2 E C Cr cC cK K hfirst hNr hok hhi
          go_region_held3 (fun W => Below wr.heap.size wr W ∧ W.cell? ⟨g, off, none⟩ = some (.int .i64 xf) ∧ W.cell? ⟨gk, 1, none⟩ = some (.int .i64 rt) ∧ W.cell? ⟨w.heap.size + 2, 0, none⟩ = some (.int .i64 4) ∧ W.cell? ⟨w.heap.size + 2, 1, none⟩ = some (.int .i64 0) ∧ W.cell? ⟨w.heap.size + 2, 2, none⟩ = some (.int .i64 64) ∧ W.cell? ⟨w.heap.size + 2, 3, none⟩ = some (.int .i64 8) ∧ W.cell? ⟨w.heap.size + 2, 4, none⟩ = some (.int .i64 2) ∧ W.cell? ⟨w.heap.size + 2, 5, none⟩ = some (.int .i64 1) ∧ W.cell? ⟨w.heap.size + 2, 6, none⟩ = some (.int .i64 8) ∧ W.cell? ⟨w.heap.size + 2, 7, none⟩ = some (.int .i64 400) ∧ W.cell? ⟨w.heap.size + 2, 8, none⟩ = some (.int .i64 400) ∧ W.cell? ⟨w.heap.size + 2, 9, none⟩ = some (.int .i64 16)) ((refine SMK.out _ ?_; with_reducible (repeat (first | exact hL5 | refine below_set ?_ (by first | exact Nat.le_refl _ | exact Nat.le_succ _ | exact Below.size hL5 | exact Nat.le_succ_of_le (Below.size hL5) | exact Below.size (by assumption) | (simp; done) | (simp; omega) | (have := Below.size hL5; simp; omega)) _ | refine Below.alloc ?_ (by first | exact Nat.le_refl _ | exact Nat.le_succ _ | exact Below.size hL5 | exact Nat.le_succ_of_le (Below.size hL5) | exact Below.size (by assumption) | (simp; done) | (simp; omega) | (have := Below.size hL5; simp; omega)) _ | refine Below.drew ?_ | exact Below.refl _ _)))) (first | (go_at_call 39; refine (HEC.out _ (And.left (by assumption))).mono ?_; rintro e w5 ⟨rfl, hb5⟩; with_reducible have hL5 := below_via (by assumption) (Nat.le_refl _) hb5; (first | (with_reducible have Z5 := new_below hb5) | (with_reducible have Z5 := new_below_d hb5) | (with_reducible have Z5 := keep_below (t := 31) (cs := #[.int .i64 0, .int .i64 0]) (by assumption) hb5) | skip); (try (have cZ5 := Z5.cell; have fZ5 := Z5.frozen; have lZ5 := Z5.lt))))
          all_goals (go_wp2_with fail; go_meet)
          all_goals (first | exact ⟨_, rfl, Blk.new _ _ _, Below.size hL5, Below.alloc hL5 (Below.size hL5) _⟩ | exact ⟨_, rfl, set2 Z5 _ _, (by first | exact Nat.le_refl _ | exact Below.size hL5 | exact Below.size (by assumption)), below_set (below_set hL5 (by first | exact Nat.le_refl _ | exact Below.size (by assumption)) _) (by first | exact Nat.le_refl _ | exact Below.size (by assumption)) _⟩)
        case rest =>
          obtain ⟨gq, rfl, Q, hgq, hLc⟩ := hcut
          obtain ⟨wt, hwt⟩ : ∃ W : World, W = wc := ⟨_, rfl⟩
          rw [← hwt] at Q hLc ⊢
          clear hwt
          have HRW := hide (HRW2.out.below hgn hLc hn2)
          have HO := hide (HO2.out.below hLc (Nat.le_refl _))
          have hX := hX2.trans (Exb.of_below hLc hn2)
          have hBr := hB2.trans (hLc.mono hB2.size)
          have hnr := Nat.le_trans hn2 hLc.size
          have HNQ := hide (show (Value.slice AO out.length cO).ownBlock ≠ some gq from fun e => by have := (HO2.out.lt gq e).2; omega)
          have hqn : n ≤ gq := Nat.le_trans hn2 hgq
          clear SMK HEC HRW2 HO2 hX2 hB2 hn2 Cr cC cK lk K ex ey fx lg hgq hLc hkn hrt hfirst
          obtain ⟨yt, hyt⟩ : ∃ a, endS (xf, xt) = a := ⟨_, rfl⟩
          rw [hyt] at Q
          have HYT := hide hyt
          clear hyt
          have cQ := Q.cell
          have R5 : RdL LSp (wt.alloc (.cells #[.int .i64 xf, .int .i64 yt] 31)) (wt.heap.size + 1) (.slice (some ⟨wt.heap.size, 0, none⟩) 1 1) [(xf, yt)] := by
            have := RdL.one_ (L := LSp) (x := (xf, yt)) (Blk.new wt 31 #[.int .i64 xf, .int .i64 yt]) rfl
            simpa using this
          have hol : out.length ≤ 120 := by have h1 := congrArg List.length HPL.out; rw [List.length_append] at h1; have := plan_len h; omega
          have HL9 := hide (show out.length + [(xf, yt)].length ≤ 1000000000 by rw [List.length_singleton]; omega)
          go_wp2_with (at_builtin; refine wpList_appL LSp wt (by rfl) (.tmp 52) (.tmp 54) _ _ (by rfl) rfl rfl n _ _ (by rfl) (HO.out.alloc _) ((Below.refl n wt).alloc hnr _) (by simp; omega) _ [(xf, yt)] _ (by rfl) R5 (by decide) HL9.out ?_; intro v9 w9 O9 hB9 hg9 hv9; obtain ⟨out9, hout9⟩ : ∃ x, x = out ++ [(xf, yt)] := ⟨_, rfl⟩; rw [← hout9] at O9; have HOUT := hide hout9; clear hout9; obtain ⟨A9, c9, hv, _, _⟩ := O9.rd.form; subst hv)
          have HRW9 := hide (HRW.out.below hgn hB9 (Nat.le_refl _))
          have Q9 := Blk.grownL (Q.alloc _) hg9 HNQ.out
          have hX9 := hX.trans (Exb.of_below hB9 (Nat.le_refl _))
          have hBr9 := hBr.trans (hB9.mono (by omega))
          have HO9 := hide O9
          have hnr9 := Nat.le_trans hnr hB9.size
          have HNX := hide (show out ++ [(xf, yt)] ++ planL (nextL (xf, xt) rest) = planL (wideL gp) by have := (plan_out HPL.out).1; rwa [HYT.out] at this)
          have hmea := (plan_out HPL.out).2
          have HTN := hide (todo_nextN HTD.out)
          have HOL := hide (show out9.length = out.length + 1 by rw [HOUT.out]; simp)
          have hout9 := HOUT.out
          rw [← hout9] at HNX
          clear hout9 HOUT O9 hg9 hv9 hB9 hX hBr HRW Q HO R5 HL9 HNQ hnr cQ HPL HTD
          obtain ⟨wt, hwt⟩ : ∃ W : World, W = w9 := ⟨_, rfl⟩
          rw [← hwt] at HRW9 Q9 hX9 hBr9 HO9 hnr9 ⊢
          clear hwt
          go_wp2_with fail
          go_loopw [13] (fun c13 wr => ∃ (V2 : Value) (l2 : List Sp), V2 = c13 ∧ Hid (RowS n g wr V2 l2) ∧ Hid ((l2 = (xf, xt) :: rest) ∨ (l2 = rest ∧ xt ≤ endS (xf, xt))) ∧ Below wt.heap.size wt wr) (fun c13 _ => lenV c13)
          case atStart => exact ⟨_, _, rfl, HRW9, .inl rfl, Below.refl _ _⟩
          case round =>
            obtain ⟨V2, l2, rfl, H2, HD, hb2⟩ := hrel
            have Q2 := Q9.below hb2 Q9.lt
            have cQ := Q2.cell
            have lq := Q2.lt
            by_cases hpop : l2 = (xf, xt) :: rest ∧ xt ≤ yt
            · obtain ⟨rfl, hle⟩ := hpop
              obtain ⟨off3, c3', hV3, _, _, ex, ey, fx, lg⟩ := H2.out.at_
              simp only at ex ey
              subst hV3
              obtain ⟨Vn, hcut, HC, hlv⟩ := RowS.cut H2.out
              have HC := hide HC
              obtain ⟨An, cn, hVn, _, _⟩ := HC.out.rd.form
              subst hVn
              have dle : decide (xt ≤ yt) = true := decide_eq_true hle
              have hlr2 : ((rest.length + 1 : Nat) : Int) > 0 := by omega
              go_upto_region 10 with fail
              go_quiet (fail)
              have hb3 : Below wt.heap.size wt (wr.drewN nq) := below_drewN hb2 _
              have HC3 := hide (HC.out.keep hgn (w' := wr.drewN nq) (fun j _ => rfl))
              have HYL := hide (show rest = rest ∧ xt ≤ endS (xf, xt) by rw [HYT.out]; exact ⟨rfl, hle⟩)
              obtain ⟨w5, hw5⟩ : ∃ W : World, W = wr.drewN nq := ⟨_, rfl⟩
              rw [← hw5] at hb3 HC3
              first | rw [← hw5] | skip
              clear hw5 ex ey fx cQ
              go_wp2_with fail
              go_roundw
              case rel => exact ⟨_, rest, rfl, HC3, .inr HYL.out, hb3⟩
              case measure => simp [lenV]
            · obtain hex := exit_of hNr HD.out (by rw [HYT.out]; exact hpop)
              rw [HYT.out] at hex
              clear hpop HD
              have HXX := hide ((hX9.trans (Exb.of_below hb2 hnr9)))
              have hBx := hBr9.trans (hb2.mono hBr9.size)
              have HOx := hide (HO9.out.below hb2 (Nat.le_refl _))
              have hnx := Nat.le_trans hnr9 hb2.size
              rcases hex with ⟨rfl, hnil⟩ | ⟨z, zs, rfl, hz, hnx2⟩
              · rw [hnil] at HNX HTN
                obtain ⟨A2', c2', hV2, _, _⟩ := H2.out.rd.form
                have hV2' : V2 = .slice A2' 0 c2' := hV2
                subst hV2'
                go_upto_region 10 with fail
                go_quiet (fail)
                have HXq := hide (show Exb g n wS (wr.drewN nq) from HXX.out)
                have hBq := below_drewN hBx nq
                have HOq := hide (HOx.out.drewN nq)
                have H2q := hide (H2.out.keep hgn (w' := wr.drewN nq) (fun j _ => rfl))
                clear H2 HXX hBx HOx cQ
                go_wp2_with fail
                go_roundw
                case rel => exact ⟨_, _, [], out9, rfl, rfl, H2q, HOq, HNX, HTN, HXq.out, hBq⟩
                case measure => have := HOL.out; simp [lenV]; omega
              · obtain ⟨zf, zt⟩ := z
                rw [hnx2] at HNX HTN
                obtain ⟨off3, c3', hV3, _, _, ex, ey, fx, lg⟩ := H2.out.at_
                simp only at ex ey hz
                subst hV3
                have dle : decide (zt ≤ yt) = false := decide_eq_false hz
                have hlr2 : ((zs.length + 1 : Nat) : Int) > 0 := by omega
                go_upto_region 10 with fail
                go_quiet (fail)
                have HXq := hide (show Exb g n wS (wr.drewN nq) from HXX.out)
                have hBq := below_drewN hBx nq
                have HOq := hide (HOx.out.drewN nq)
                have H2q := hide (H2.out.keep hgn (w' := wr.drewN nq) (fun j _ => rfl))
                have Qq := Q2.drewN nq
                have ex' : (wr.drewN nq).cell? ⟨g, off3, none⟩ = some (.int .i64 zf) := ex
                have fx' : (wr.drewN nq).frozen? ⟨g, off3, none⟩ = false := fx
                have lg' : g < (wr.drewN nq).heap.size := lg
                have lq' : gq < (wr.drewN nq).heap.size := lq
                obtain ⟨w5, hw5⟩ : ∃ W : World, W = wr.drewN nq := ⟨_, rfl⟩
                rw [← hw5] at HXq hBq HOq H2q Qq ex' fx' lg' lq'
                first | rw [← hw5] | skip
                clear hw5 H2 HXX hBx HOx cQ ex ey fx lg lq Q2 hb2
                have cQ := Qq.cell
                go_upto_region 13 with fail
                have hnx3 : n ≤ w5.heap.size := by have := HXq.out.1; omega
                have H9 := hide (show RowS n g (w5.setCell ⟨g, off3, none⟩ (.int .i64 (max zf yt))).drew (.slice (some ⟨g, off3, none⟩) (zs.length + 1) c3') ((max zf yt, zt) :: zs) from (RowS.set_ H2q.out (max zf yt)).keep hgn (fun j _ => rfl))
                have HX9 := hide (show Exb g n wS (w5.setCell ⟨g, off3, none⟩ (.int .i64 (max zf yt))).drew from ⟨(HXq.out.trans (Exb.setk w5 _)).1, (HXq.out.trans (Exb.setk w5 _)).2⟩)
                have hB9 := (below_set hBq (g := g) (i := off3) (by omega) (.int .i64 (max zf yt))).drew
                have HO9' := hide ((HOq.out.far (p := ⟨g, off3, none⟩) (fun e => by have := (HOq.out.lt g e).1; omega) (.int .i64 (max zf yt))).drew)
                clear H2q HXq hBq HOq hnx3
                go_region
                skip
                all_goals
                  go_wp2_with fail
                  go_roundw
                  case rel => exact ⟨_, _, _, out9, rfl, rfl, H9, HO9', HNX, HTN, HX9.out, hB9⟩
                  case measure => have := HOL.out; simp [lenV]; omega

end Go.Proofs.YtfcbmajogmojbaaDoor
