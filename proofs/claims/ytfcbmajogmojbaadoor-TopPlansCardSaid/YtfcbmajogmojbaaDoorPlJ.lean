/-
  What is planned has all that is missing, and nothing that is kept or to come.
-/
import Derived.Test.YtfcbmajogmojbaaDoorPlI
import Derived.Test.YtfcbmajogmojbaaDoorPlG
import Derived.Test.YtfcbmajogmojbaaDoorRngI
import Derived.Test.YtfcbmajogmojbaaDoorRegI
namespace Go.Proofs.YtfcbmajogmojbaaDoor.topPlans
open Go.RowKit Go.Shelf
set_option linter.unusedVariables false
set_option linter.unusedSimpArgs false

set_option maxRecDepth 100000 in
set_option maxHeartbeats 16000000 in
theorem walk (vn vc vk : Value) (need come : List Sp) (kept : List Int) (w : World) (hn : RdL LSp w w.heap.size vn need) (hc : RdL LSp w w.heap.size vc come) (hk : RdL LU8 w w.heap.size vk kept) (hkv : ∀ p ∈ kept, 0 ≤ p ∧ p ≤ 255) : Calls Tryd.prog 4 #[vn, vc, vk] w (BoolOk true w) := by
  obtain ⟨A1, c1, rfl, _, _⟩ := hn.form
  obtain ⟨A2, c2, rfl, _, _⟩ := hc.form
  obtain ⟨A3, c3, rfl, _, _⟩ := hk.form
  have HN := hide hn
  have HC := hide hc
  have HK := hide hk
  clear hn hc hk
  have hB0 := Below.refl w.heap.size w
  go_enter Tryd.func4, Tryd.ntmps4
  by_cases h1 : 10 < need.length
  · have d1 : decide ((need.length : Int) > 10) = true := decide_eq_true (by omega)
    go_wp2_with fail
    refine (alive_any w).mono ?_
    rintro e wz ⟨rfl, hbz⟩
    have hBz := hB0.trans (hbz.mono hB0.size)
    go_wp2_with fail
    go_ret
    exact ⟨rfl, hBz⟩
  · have d1 : decide ((need.length : Int) > 10) = false := decide_eq_false (by omega)
    by_cases h2 : 10 < come.length
    · have d2 : decide ((come.length : Int) > 10) = true := decide_eq_true (by omega)
      go_wp2_with fail
      refine (alive_any w).mono ?_
      rintro e wz ⟨rfl, hbz⟩
      have hBz := hB0.trans (hbz.mono hB0.size)
      go_wp2_with fail
      go_ret
      exact ⟨rfl, hBz⟩
    · have d2 : decide ((come.length : Int) > 10) = false := decide_eq_false (by omega)
      by_cases h3 : 20 < kept.length
      · have d3 : decide ((kept.length : Int) > 20) = true := decide_eq_true (by omega)
        go_wp2_with fail
        refine (alive_any w).mono ?_
        rintro e wz ⟨rfl, hbz⟩
        have hBz := hB0.trans (hbz.mono hB0.size)
        go_wp2_with fail
        go_ret
        exact ⟨rfl, hBz⟩
      · have d3 : decide ((kept.length : Int) > 20) = false := decide_eq_false (by omega)
        go_upto_region 4 with fail
        obtain ⟨wa, hwa⟩ : ∃ W : World, W = w.alloc (.cells #[.int .i64 0, .int .i64 120] 31) := ⟨_, rfl⟩
        rw [← hwa]
        have XA : Blk wa w.heap.size 31 #[.int .i64 0, .int .i64 120] := by rw [hwa]; exact Blk.new _ _ _
        have hBa : Below w.heap.size w wa := by rw [hwa]; exact (Below.refl _ _).alloc (Nat.le_refl _) _
        clear hwa
        go_wp2_with fail
        refine (conf_any wa).mono ?_
        rintro e wb ⟨rfl, hbb⟩
        have hBb := hBa.trans (hbb.mono hBa.size)
        replace XA := XA.below hbb XA.lt
        clear hbb hBa
        go_upto_region 5 with fail
        obtain ⟨wc, hwc⟩ : ∃ W : World, W = wb.alloc (.cells #[.int .i64 4, .int .i64 0, .int .i64 64, .int .i64 8, .int .i64 2, .int .i64 1, .int .i64 8, .int .i64 400, .int .i64 400, .int .i64 16] 47) := ⟨_, rfl⟩
        rw [← hwc]
        obtain ⟨gC, hgC⟩ : ∃ n, n = wb.heap.size := ⟨_, rfl⟩
        rw [← hgC]
        have XC : Blk wc gC 47 #[.int .i64 4, .int .i64 0, .int .i64 64, .int .i64 8, .int .i64 2, .int .i64 1, .int .i64 8, .int .i64 400, .int .i64 400, .int .i64 16] := by rw [hwc, hgC]; exact Blk.new _ _ _
        have hBc : Below w.heap.size w wc := by rw [hwc]; exact hBb.alloc hBb.size _
        have XA2 : Blk wc w.heap.size 31 #[.int .i64 0, .int .i64 120] := by rw [hwc]; exact XA.alloc _
        clear hwc hgC hBb XA
        have cA := XA2.cell
        go_wp2_with fail
        refine (of_to (l := allP) (RdL.one_ (L := LSp) (x := ((0 : Int), (120 : Int))) (Blk.new wc 31 #[.int .i64 0, .int .i64 120]) rfl) (by decide) all_of).mono ?_
        rintro e wd ⟨vW, rfl, hrW, hbd⟩
        obtain ⟨AW, cW, hvW, _, _⟩ := hrW.form
        subst hvW
        have hrW1 : RdL LSp wd wd.heap.size (.slice AW 1 cW) allP := hrW
        have HW := hide hrW1
        clear hrW hrW1
        have hcd : Below wc.heap.size wc wd := ((Below.refl _ _).alloc (Nat.le_refl _) _).trans (hbd.mono (by simp))
        have hBd := hBc.trans (hcd.mono hBc.size)
        replace XC := XC.below hcd XC.lt
        clear cA XA2 hbd hcd hBc
        go_upto_region 7 with fail
        obtain ⟨w1, hw1⟩ : ∃ W : World, W = ((wd.alloc (.cells #[.slice AW 1 cW] 28)).alloc (.cells #[.slice none 0 0] 28)).alloc (.cells #[.slice none 0 0] 28) := ⟨_, rfl⟩
        first | rw [← hw1] | (change Code.wp _ _ _ _ (((wd.alloc (.cells #[.slice AW 1 cW] 28)).alloc (.cells #[.slice none 0 0] 28)).alloc (.cells #[.slice none 0 0] 28)); rw [← hw1])
        obtain ⟨gW, hgW⟩ : ∃ n, n = wd.heap.size := ⟨_, rfl⟩
        obtain ⟨gT, hgT⟩ : ∃ n, n = wd.heap.size + 1 := ⟨_, rfl⟩
        obtain ⟨gY, hgY⟩ : ∃ n, n = wd.heap.size + 1 + 1 := ⟨_, rfl⟩
        have hXC := XC.lt
        have hBs := hBd.size
        have HS0 := hide (show PSt w gC gW gT gY AW cW [] [] w1 from by
          rw [hw1, hgT, hgW, hgY]
          refine ⟨((XC.alloc _).alloc _).alloc _, ((Blk.new _ _ _).alloc _).alloc _, rd_al (rd_al (rd_al HW.out)), ⟨none, 0, (Blk.new' (by simp)).alloc _, RdL.nil _ _ _ _ (by omega)⟩, ⟨none, 0, Blk.new' (by simp), RdL.nil _ _ _ _ (by omega)⟩, ((hBd.alloc hBd.size _).alloc (by simp; omega) _).alloc (by simp; omega) _, ?_, ?_, ?_, ?_, ?_, ?_, ?_⟩ <;> omega)
        rw [← hgY, ← hgT, ← hgW]
        clear hw1 hgW hgT hgY HW XC hBd hXC hBs
        go_wp2_with fail
        go_loopw [13, 47] (fun _ c47 wr => ∃ (k : Nat) (T : List Sp), k ≤ kept.length ∧ c47 = .int .i64 (k : Int) ∧ Hid (SetP T) ∧ Hid (PSt w gC gW gT gY AW cW T [] wr)) (fun _ c47 _ => kept.length - (intOf c47).toNat)
        case atStart => exact ⟨0, [], Nat.zero_le _, rfl, SetP.nil, HS0⟩
        case round =>
          clear HS0
          obtain ⟨k, T, hk, rfl, HST, HS⟩ := hrel
          by_cases hlt : k < kept.length
          · obtain ⟨b0, off, hA, hbl, p0⟩ := HK.out.u8 k hlt
            subst hA
            obtain ⟨pv, hpv⟩ : ∃ x, kept[k] = x := ⟨_, rfl⟩
            have hpb := hkv kept[k] (List.getElem_mem hlt)
            rw [hpv] at p0 hpb
            clear hpv
            have e0 : wr.cell? ⟨b0, off + k, none⟩ = some (.int .u8 pv) := by rw [HS.out.bel.cell (by show b0 < _; omega)]; exact p0
            clear p0
            obtain ⟨no, hnd⟩ : ∃ n, n = pv % 30 := ⟨_, rfl⟩
            have hno : 0 ≤ no ∧ no < 30 := by omega
            have hwi : IntKind.i64.wrap (pv.tmod 30) = no := by rw [Int.tmod_eq_emod_of_nonneg hpb.1, ← hnd]; exact wrap64_id (by omega) (by omega)
            clear hnd
            obtain ⟨AT, cT, hbt, hrt⟩ := HS.out.t
            have HBT := hide hbt
            have HTr := hide hrt
            have HBC := hide HS.out.c
            clear hbt hrt
            have HL1 := hide (show T.length ≤ 500000 by have := HST.out.len; omega)
            have HL2 := hide (show [unitS no].length ≤ 500000 by simp)
            have HLL := hide (show [unitS no].length ≤ 1000000 by simp)
            go_upto_region 10 with fail
            have HST2 := hide (HST.out.or_ (unit_set hno))
            have cT := HBT.out.cell
            have cC := HBC.out.cell
            have lT := HBT.out.lt
            go_region_with (first | (go_at_call 18; refine (sspan_any no hno wr.drew).mono ?_; rintro e w5 ⟨rfl, hb5⟩; have hb5 := below_drew hb5; have cT5 := (HBT.out.below hb5 HBT.out.lt).cell; have cT5a := ((HBT.out.below hb5 HBT.out.lt).alloc (.cells #[.int .i64 (no * 4), .int .i64 (no * 4 + 4)] 31)).cell) | (go_at_call 7; refine (of_to (l := [unitS no]) (RdL.one_ (L := LSp) (x := unitS no) (Blk.new w5 _ #[.int .i64 (no * 4), .int .i64 (no * 4 + 4)]) rfl) HLL.out (unit_of hno)).mono ?_; rintro e w6 ⟨v6, rfl, h6, hb6⟩; obtain ⟨A6, c6, hv6, -, -⟩ := h6.form; subst hv6; have H6 := hide h6; clear h6; have hb6 := below_al hb5 hb6; have cT6 := (HBT.out.below hb6 HBT.out.lt).cell) | (go_at_call 11; refine (or_to (rd_at HTr.out hb6) H6.out HL1.out HL2.out rfl).mono ?_; rintro e w7 ⟨v7, rfl, h7, hb7⟩; obtain ⟨A7, c7, hv7, -, -⟩ := h7.form; subst hv7; have H7 := hide h7; clear h7; have hb7 := hb6.trans (hb7.mono hb6.size); have T7 := HBT.out.below hb7 HBT.out.lt; have cT7 := T7.cell; have fT7 := T7.frozen; have lT7 := T7.lt))
            all_goals
              have HS2 := hide ((HS.out.below hb7).setT H7.out)
              clear HBT HTr HBC HL1 HL2 HLL e0 hwi HS HST H7 H6 cT7 fT7 lT7 T7 cT cC lT cT5 cT5a cT6 hb5 hb6 hb7
              go_wp2_with fail
              go_roundw
              case rel => exact ⟨k + 1, _, by omega, by go_num, HST2, HS2⟩
              case measure => simp [intOf] <;> omega
          · obtain rfl : k = kept.length := by omega
            clear hlt hk HK
            go_wp2_with fail
            go_loopw [15, 16, 17, 64, 68] (fun _ _ _ c64 _ wr => ∃ (k : Nat) (F : List Sp), k ≤ come.length ∧ c64 = .int .i64 (k : Int) ∧ Hid (SetP F) ∧ Hid (PSt w gC gW gT gY AW cW T F wr)) (fun _ _ _ c64 _ _ => come.length - (intOf c64).toNat)
            case atStart => exact ⟨0, [], Nat.zero_le _, rfl, SetP.nil, HS⟩
            case round =>
              clear HS
              obtain ⟨k, F, hk, rfl, HSF, HS⟩ := hrel
              by_cases hlt : k < come.length
              · obtain ⟨b0, off, hA, hbl, p0, p1⟩ := HC.out.span k hlt
                subst hA
                obtain ⟨sf, sto, hx⟩ : ∃ a b : Int, come[k] = (a, b) := ⟨_, _, rfl⟩
                rw [hx] at p0 p1
                simp only at p0 p1
                clear hx
                have e0 : wr.cell? ⟨b0, off + k * 2, none⟩ = some (.int .i64 sf) := by rw [HS.out.bel.cell (by show b0 < _; omega)]; exact p0
                have e1 : wr.cell? ⟨b0, off + k * 2 + 1, none⟩ = some (.int .i64 sto) := by rw [HS.out.bel.cell (by show b0 < _; omega)]; exact p1
                clear p0 p1
                go_upto_region 15 with fail
                obtain ⟨w2, hw2⟩ : ∃ W : World, W = wr.alloc (.cells #[.int .i64 sf, .int .i64 sto] 31) := ⟨_, rfl⟩
                rw [← hw2]
                obtain ⟨gs, hgs⟩ : ∃ n, n = wr.heap.size := ⟨_, rfl⟩
                rw [← hgs]
                have HG := hide (show Blk w2 gs 31 #[.int .i64 sf, .int .i64 sto] by rw [hw2, hgs]; exact Blk.new _ _ _)
                have HS2 := hide (show PSt w gC gW gT gY AW cW T F w2 by rw [hw2]; exact HS.out.alloc _)
                have HSY : gs ≠ gY := by obtain ⟨A, c, hb, _⟩ := HS.out.f; have := hb.lt; omega
                clear hw2 hgs e0 e1 HS
                go_wp2_with fail
                go_loopw [16, 17, 68] (fun _ _ c68 wr => ∃ (no : Nat) (F : List Sp), no ≤ 30 ∧ c68 = .int .i64 (no : Int) ∧ Hid (SetP F) ∧ Hid (PSt w gC gW gT gY AW cW T F wr) ∧ Hid (Blk wr gs 31 #[.int .i64 sf, .int .i64 sto])) (fun _ _ c68 _ => 30 - (intOf c68).toNat)
                case atStart => exact ⟨0, F, by omega, rfl, HSF, HS2, HG⟩
                case round =>
                  clear HSF HS2 HG
                  obtain ⟨m, F, hm, rfl, HSF, HS, HG⟩ := hrel
                  by_cases hm30 : m < 30
                  · have d30 : decide ((m : Int) < 30) = true := decide_eq_true (by omega)
                    have hno : 0 ≤ (m : Int) ∧ (m : Int) < 30 := by omega
                    have cC := HS.out.c.cell
                    go_wp2_with fail
                    refine (sspan_any (m : Int) hno wr).mono ?_
                    rintro e w5 ⟨rfl, hb5⟩
                    have HS5 := hide (HS.out.below hb5)
                    have HG5 := hide (HG.out.below hb5 HG.out.lt)
                    clear cC HS HG hb5
                    go_upto_region 19 with fail
                    obtain ⟨w6, hw6⟩ : ∃ W : World, W = w5.alloc (.cells #[.int .i64 ((m : Int) * 4), .int .i64 ((m : Int) * 4 + 4)] 31) := ⟨_, rfl⟩
                    rw [← hw6]
                    obtain ⟨gx, hgx⟩ : ∃ n, n = w5.heap.size := ⟨_, rfl⟩
                    rw [← hgx]
                    have HX := hide (show Blk w6 gx 31 #[.int .i64 ((m : Int) * 4), .int .i64 ((m : Int) * 4 + 4)] by rw [hw6, hgx]; exact Blk.new _ _ _)
                    have HS := hide (show PSt w gC gW gT gY AW cW T F w6 by rw [hw6]; exact HS5.out.alloc _)
                    have HG := hide (show Blk w6 gs 31 #[.int .i64 sf, .int .i64 sto] by rw [hw6]; exact HG5.out.alloc _)
                    clear hw6 hgx HS5 HG5
                    obtain ⟨wr, hwr⟩ : ∃ W : World, W = w6 := ⟨_, rfl⟩
                    rw [← hwr] at HX HS HG ⊢
                    clear hwr
                    have HL1 := hide (show [(sf, sto)].length ≤ 1000000 by simp)
                    have HL2 := hide (show [unitS (m : Int)].length ≤ 1000000 by simp)
                    have HL3 := hide (show (ofL [(sf, sto)]).length ≤ 500000 by have := ofL_len [(sf, sto)]; simp at this; omega)
                    have HL4 := hide (show [unitS (m : Int)].length ≤ 500000 by simp)
                    have HNF := hide (show Nf (andL (ofL [(sf, sto)]) [unitS (m : Int)]) from andL_nf _ _ (ofL_nf _) (unit_nf hno))
                    have HHI := hide (show ∀ y ∈ andL (ofL [(sf, sto)]) [unitS (m : Int)], y.2 ≤ 1099511627776 from by have := meet_hi (s := (sf, sto)) hno; rwa [unit_of hno] at this)
                    obtain ⟨su, hsu⟩ : ∃ z : Int, sumL (andL (ofL [(sf, sto)]) [unitS (m : Int)]) = z := ⟨_, rfl⟩
                    have HSU := hide hsu
                    clear hsu
                    have SMK := hide (show ∀ W : World, Below wr.heap.size wr W → (Below wr.heap.size wr W ∧ W.cell? ⟨gs, 0, none⟩ = some (.int .i64 sf) ∧ W.cell? ⟨gs, 1, none⟩ = some (.int .i64 sto) ∧ W.cell? ⟨gx, 0, none⟩ = some (.int .i64 ((m : Int) * 4)) ∧ W.cell? ⟨gx, 1, none⟩ = some (.int .i64 ((m : Int) * 4 + 4))) from fun W h => ⟨h, (HG.out.below h HG.out.lt).cell 0, (HG.out.below h HG.out.lt).cell 1, (HX.out.below h HX.out.lt).cell 0, (HX.out.below h HX.out.lt).cell 1⟩)
                    go_cut [83] (fun p83 wx => p83 = .bool (decide (su > 0)) ∧ Below wr.heap.size wr wx)
                    case first =>
                      clear SMK
                      refine wp_region_mem 9 [75, 76, 77, 78, 79, 80, 81, 82, 83] (by kernel_rfl) (by kernel_rfl) (fun i v W => match i with | 0 => v = .agg #[.int .i64 sf, .int .i64 sto] | 1 => ∃ g, v = .slice (some ⟨g, 0, none⟩) 1 1 ∧ RdL LSp W W.heap.size (.slice (some ⟨g, 0, none⟩) 1 1) [(sf, sto)] | 2 => ∃ A c, v = .agg #[.slice A (ofL [(sf, sto)]).length c] ∧ RdL LSp W W.heap.size (.slice A (ofL [(sf, sto)]).length c) (ofL [(sf, sto)]) | 3 => v = .agg #[.int .i64 ((m : Int) * 4), .int .i64 ((m : Int) * 4 + 4)] | 4 => ∃ g, v = .slice (some ⟨g, 0, none⟩) 1 1 ∧ RdL LSp W W.heap.size (.slice (some ⟨g, 0, none⟩) 1 1) [unitS (m : Int)] | 5 => ∃ A c, v = .agg #[.slice A [unitS (m : Int)].length c] ∧ RdL LSp W W.heap.size (.slice A [unitS (m : Int)].length c) [unitS (m : Int)] | 6 => ∃ A c, v = .agg #[.slice A (andL (ofL [(sf, sto)]) [unitS (m : Int)]).length c] ∧ RdL LSp W W.heap.size (.slice A (andL (ofL [(sf, sto)]) [unitS (m : Int)]).length c) (andL (ofL [(sf, sto)]) [unitS (m : Int)]) | 7 => v = .int .i64 su | 8 => v = .bool (decide (su > 0)) | _ => True) ?mono ?step ?fin ?last
                      case mono =>
                        intro i v w w' h hbw
                        rcases i with _ | _ | _ | _ | _ | _ | _ | _ | _ | i
                        · exact h
                        · obtain ⟨g, rfl, h⟩ := h; exact ⟨g, rfl, rd_at h hbw⟩
                        · obtain ⟨A, c, rfl, h⟩ := h; exact ⟨A, c, rfl, rd_at h hbw⟩
                        · exact h
                        · obtain ⟨g, rfl, h⟩ := h; exact ⟨g, rfl, rd_at h hbw⟩
                        · obtain ⟨A, c, rfl, h⟩ := h; exact ⟨A, c, rfl, rd_at h hbw⟩
                        · obtain ⟨A, c, rfl, h⟩ := h; exact ⟨A, c, rfl, rd_at h hbw⟩
                        · exact h
                        · exact h
                        · trivial
                      case step =>
                        intro i o a w hin ho hS hb hd
                        rcases i with _ | _ | _ | _ | _ | _ | _ | _ | _ | i
                        · obtain rfl := Option.some.inj ho
                          have hx : a.tmps[15]?.getD undef = .pointer (some ⟨gs, 0, none⟩) := by rw [← slot_get, slot_old hS (by decide)]; rfl
                          have hc0 : w.cell? ⟨gs, 0, none⟩ = some (.int .i64 sf) := (HG.out.below hb HG.out.lt).cell 0
                          have hc1 : w.cell? ⟨gs, 1, none⟩ = some (.int .i64 sto) := (HG.out.below hb HG.out.lt).cell 1
                          refine op_run (v := .agg #[.int .i64 sf, .int .i64 sto]) (w' := w) (by simp [execOp, go_sem, hx, hc0, hc1]) ?_
                          exact ⟨_, rfl, Below.refl _ _, rfl⟩
                        · obtain rfl := Option.some.inj ho
                          have dD0 := hd ⟨0, .data⟩ (by simp) rfl
                          have h0 : a.tmps[75]?.getD undef = .agg #[.int .i64 sf, .int .i64 sto] := by rw [← slot_get]; exact dD0
                          refine op_run (v := .slice (some ⟨w.heap.size, 0, none⟩) 1 1) (w' := w.alloc (.cells #[.int .i64 sf, .int .i64 sto] 31)) (by simp [execOp, go_sem, h0]) ?_
                          exact ⟨_, rfl, (Below.refl _ _).alloc (Nat.le_refl _) _, _, rfl, RdL.one_ (L := LSp) (x := (sf, sto)) (Blk.new w 31 #[.int .i64 sf, .int .i64 sto]) rfl⟩
                        · obtain rfl := Option.some.inj ho
                          obtain ⟨g, dD0, hq0⟩ := hd ⟨1, .data⟩ (by simp) rfl
                          have h0 : a.tmps[76]?.getD undef = .slice (some ⟨g, 0, none⟩) 1 1 := by rw [← slot_get]; exact dD0
                          refine op_call (f := 7) (args := #[.slice (some ⟨g, 0, none⟩) 1 1]) (by simp [execOp, go_sem, h0]) (of_to (l := [(sf, sto)]) hq0 HL1.out rfl) ?_
                          rintro e w' ⟨v, rfl, h, hbw⟩
                          obtain ⟨A8, c8, hv8, -, -⟩ := h.form
                          subst hv8
                          exact ⟨_, rfl, _, rfl, hbw, _, _, rfl, h⟩
                        · obtain rfl := Option.some.inj ho
                          have hx : a.tmps[17]?.getD undef = .pointer (some ⟨gx, 0, none⟩) := by rw [← slot_get, slot_old hS (by decide)]; rfl
                          have hc0 : w.cell? ⟨gx, 0, none⟩ = some (.int .i64 ((m : Int) * 4)) := (HX.out.below hb HX.out.lt).cell 0
                          have hc1 : w.cell? ⟨gx, 1, none⟩ = some (.int .i64 ((m : Int) * 4 + 4)) := (HX.out.below hb HX.out.lt).cell 1
                          refine op_run (v := .agg #[.int .i64 ((m : Int) * 4), .int .i64 ((m : Int) * 4 + 4)]) (w' := w) (by simp [execOp, go_sem, hx, hc0, hc1]) ?_
                          exact ⟨_, rfl, Below.refl _ _, rfl⟩
                        · obtain rfl := Option.some.inj ho
                          have dD0 := hd ⟨3, .data⟩ (by simp) rfl
                          have h0 : a.tmps[78]?.getD undef = .agg #[.int .i64 ((m : Int) * 4), .int .i64 ((m : Int) * 4 + 4)] := by rw [← slot_get]; exact dD0
                          refine op_run (v := .slice (some ⟨w.heap.size, 0, none⟩) 1 1) (w' := w.alloc (.cells #[.int .i64 ((m : Int) * 4), .int .i64 ((m : Int) * 4 + 4)] 31)) (by simp [execOp, go_sem, h0]) ?_
                          exact ⟨_, rfl, (Below.refl _ _).alloc (Nat.le_refl _) _, _, rfl, RdL.one_ (L := LSp) (x := unitS (m : Int)) (Blk.new w 31 #[.int .i64 ((m : Int) * 4), .int .i64 ((m : Int) * 4 + 4)]) rfl⟩
                        · obtain rfl := Option.some.inj ho
                          obtain ⟨g, dD0, hq0⟩ := hd ⟨4, .data⟩ (by simp) rfl
                          have h0 : a.tmps[79]?.getD undef = .slice (some ⟨g, 0, none⟩) 1 1 := by rw [← slot_get]; exact dD0
                          refine op_call (f := 7) (args := #[.slice (some ⟨g, 0, none⟩) 1 1]) (by simp [execOp, go_sem, h0]) (of_to (l := [unitS (m : Int)]) hq0 HL2.out (unit_of hno)) ?_
                          rintro e w' ⟨v, rfl, h, hbw⟩
                          obtain ⟨A8, c8, hv8, -, -⟩ := h.form
                          subst hv8
                          exact ⟨_, rfl, _, rfl, hbw, _, _, rfl, h⟩
                        · obtain rfl := Option.some.inj ho
                          obtain ⟨AD0, cD0, dD0, hq0⟩ := hd ⟨2, .data⟩ (by simp) rfl
                          have h0 : a.tmps[77]?.getD undef = .agg #[.slice AD0 (ofL [(sf, sto)]).length cD0] := by rw [← slot_get]; exact dD0
                          obtain ⟨AD1, cD1, dD1, hq1⟩ := hd ⟨5, .data⟩ (by simp) rfl
                          have h1 : a.tmps[80]?.getD undef = .agg #[.slice AD1 [unitS (m : Int)].length cD1] := by rw [← slot_get]; exact dD1
                          refine op_call (f := 19) (args := #[.agg #[.slice AD0 (ofL [(sf, sto)]).length cD0], .agg #[.slice AD1 [unitS (m : Int)].length cD1]]) (by simp [execOp, go_sem, h0, h1]) (and_any _ _ (ofL [(sf, sto)]) [unitS (m : Int)] w hq0 hq1 (ofL_nf _) (unit_nf hno) HL3.out HL4.out) ?_
                          rintro e w' ⟨v, rfl, h, hbw⟩
                          obtain ⟨A8, c8, hv8, -, -⟩ := h.form
                          subst hv8
                          exact ⟨_, rfl, _, rfl, hbw, _, _, rfl, h⟩
                        · obtain rfl := Option.some.inj ho
                          obtain ⟨AD0, cD0, dD0, hq0⟩ := hd ⟨6, .data⟩ (by simp) rfl
                          have h0 : a.tmps[81]?.getD undef = .agg #[.slice AD0 (andL (ofL [(sf, sto)]) [unitS (m : Int)]).length cD0] := by rw [← slot_get]; exact dD0
                          refine op_call (f := 20) (args := #[.agg #[.slice AD0 (andL (ofL [(sf, sto)]) [unitS (m : Int)]).length cD0]]) (by simp [execOp, go_sem, h0]) (slen_any _ (andL (ofL [(sf, sto)]) [unitS (m : Int)]) w hq0 HNF.out HHI.out) ?_
                          rintro e w' ⟨rfl, hbw⟩
                          rw [HSU.out]
                          exact ⟨_, rfl, _, rfl, hbw, rfl⟩
                        · obtain rfl := Option.some.inj ho
                          have dD0 := hd ⟨7, .data⟩ (by simp) rfl
                          have h0 : a.tmps[82]?.getD undef = .int .i64 su := by rw [← slot_get]; exact dD0
                          refine op_run (v := .bool (decide (su > 0))) (w' := w) (by simp [execOp, go_sem, h0]) ?_
                          exact ⟨_, rfl, Below.refl _ _, rfl⟩
                        · omega
                      case fin =>
                        intro _ a w hS hb hG
                        have d8 : slot a 83 = .bool (decide (su > 0)) := hG 8 (by decide)
                        have hl := hS.lit
                        simp only [List.foldl, List.setIfInBounds_toArray, List.set_cons_zero, List.set_cons_succ] at hl
                        rw [d8] at hl
                        generalize slot a 75 = z75 at hl
                        generalize slot a 76 = z76 at hl
                        generalize slot a 77 = z77 at hl
                        generalize slot a 78 = z78 at hl
                        generalize slot a 79 = z79 at hl
                        generalize slot a 80 = z80 at hl
                        generalize slot a 81 = z81 at hl
                        generalize slot a 82 = z82 at hl
                        subst hl
                        clear hG hS
                        go_wp2_with fail
                        go_meet
                        exact ⟨rfl, hb⟩
                      case last =>
                        intro h; exact absurd h (by decide)
                    case rest =>
                      obtain ⟨rfl, hbc⟩ := hcut
                      have HS7 := hide (HS.out.below hbc)
                      have HG7 := hide (HG.out.below hbc HG.out.lt)
                      have HX7 := hide (HX.out.below hbc HX.out.lt)
                      clear HS HG HX hbc SMK HNF HHI HSU HL1 HL3
                      skip
                      cases hd : decide (su > 0)
                      · have HSF2 := HSF
                        have HS2 := HS7
                        have HG2 := HG7
                        clear HSF HS7 HG7 HX7
                        go_wp2_with fail
                        go_roundw
                        case rel => exact ⟨m + 1, _, by omega, by go_num, HSF2, HS2, HG2⟩
                        case measure => simp [intOf] <;> omega
                      · obtain ⟨AF, cF, hbf, hrf⟩ := HS7.out.f
                        have HBF := hide hbf
                        have HFr := hide hrf
                        clear hbf hrf
                        have HL5 := hide (show F.length ≤ 500000 by have := HSF.out.len; omega)
                        have HSF2 := hide (HSF.out.or_ (unit_set hno))
                        have hne : gs ≠ gY := HSY
                        have cF0 := HBF.out.cell
                        have cX0 := HX7.out.cell
                        have lF := HBF.out.lt
                        go_upto_region 20 with fail
                        obtain ⟨wq, hwq⟩ : ∃ W : World, W = wc := ⟨_, rfl⟩
                        rw [← hwq] at HS7 HG7 HX7 HBF HFr cF0 cX0 lF ⊢
                        clear hwq
                        have cFa := (HBF.out.alloc (.cells #[.int .i64 ((m : Int) * 4), .int .i64 ((m : Int) * 4 + 4)] 31)).cell
                        have cFd := (HBF.out.drew.alloc (.cells #[.int .i64 ((m : Int) * 4), .int .i64 ((m : Int) * 4 + 4)] 31)).cell
                        go_region_with (first | (go_at_call 7; refine Calls.mono (of_to (l := [unitS (m : Int)]) ?_ HL2.out (unit_of hno)) ?_; exact RdL.one_ (L := LSp) (x := unitS (m : Int)) (Blk.drew (Blk.new' (cs := #[.int .i64 ((m : Int) * 4), .int .i64 ((m : Int) * 4 + 4)]) (by simp))) rfl; rintro e w8 ⟨v8, rfl, h8, hb8⟩; obtain ⟨A8, c8, hv8, -, -⟩ := h8.form; subst hv8; have hb8 := below_al (Below.refl _ wq) (below_drew hb8); have H8 := hide h8; clear h8; have cF8 := (HBF.out.below hb8 HBF.out.lt).cell) | (go_at_call 11; refine (or_to (rd_at HFr.out hb8) H8.out HL5.out HL4.out rfl).mono ?_; rintro e w9 ⟨v9, rfl, h9, hb9⟩; obtain ⟨A9, c9, hv9, -, -⟩ := h9.form; subst hv9; have H9 := hide h9; clear h9; have hb9 := hb8.trans (hb9.mono hb8.size); have F9 := HBF.out.below hb9 HBF.out.lt; have cF9 := F9.cell; have fF9 := F9.frozen; have lF9 := F9.lt))
                        all_goals
                          have HS2 := hide ((HS7.out.below hb9).setF H9.out)
                          have HG2 := hide ((HG7.out.below hb9 HG7.out.lt).far hne (p := ⟨gY, 0, none⟩) (.slice A9 (orL F [unitS (m : Int)]).length c9))
                          clear HS7 HG7 HX7 HBF HFr H8 H9 hb8 hb9 F9 cF9 fF9 lF9 cF8 cF0 cX0 lF cFa cFd HL5
                          go_wp2_with fail
                          go_roundw
                          case rel => exact ⟨m + 1, _, by omega, by go_num, HSF2, HS2, HG2⟩
                          case measure => simp [intOf] <;> omega
                  · have d30 : decide ((m : Int) < 30) = false := decide_eq_false (by omega)
                    clear HG
                    go_wp2_with fail
                    go_roundw
                    case rel => exact ⟨k + 1, F, by omega, by go_num, HSF, HS⟩
                    case measure => simp [intOf] <;> omega
              · obtain rfl : k = come.length := by omega
                clear hlt hk HC
                obtain ⟨AT, cT, hbt, hrt⟩ := HS.out.t
                have HTr := hide hrt
                obtain ⟨AF, cF, hbf, hrf⟩ := HS.out.f
                have HFr := hide hrf
                have cT := hbt.cell
                have cF := hbf.cell
                have HLt := hide (show T.length ≤ 1000 by have := HST.out.len; omega)
                have HLf := hide (show F.length ≤ 1000 by have := HSF.out.len; omega)
                clear hbt hrt hbf hrf
                go_wp2_with fail
                refine (less_to HFr.out HTr.out HLf.out HLt.out rfl).mono ?_
                rintro e w5 ⟨v5, rfl, h5, hb5⟩
                obtain ⟨A5, c5, hv5, _, _⟩ := h5.form
                subst hv5
                have HS5 := hide (HS.out.below hb5)
                have HQ5 := hide h5
                obtain ⟨F2, hF2⟩ : ∃ x, x = lessL F T := ⟨_, rfl⟩
                rw [← hF2] at HQ5 ⊢
                have HSF2 := hide (show SetP F2 by rw [hF2]; exact HSF.out.less HST.out)
                have HF2 := hide hF2
                clear hF2 h5 hb5 cT cF HTr HFr HLf HS
                obtain ⟨AF, cF, hbf, _⟩ := HS5.out.f
                have cF := hbf.cell
                have fF := hbf.frozen
                have lF := hbf.lt
                have HS6 := hide (HS5.out.setF HQ5.out)
                clear hbf HS5 HQ5
                go_upto_region 24 with fail
                obtain ⟨wr, hwr⟩ : ∃ W : World, W = w5.setCell ⟨gY, 0, none⟩ (.slice A5 F2.length c5) := ⟨_, rfl⟩
                rw [← hwr] at HS6 ⊢
                clear hwr cF fF lF
                obtain ⟨F, hF⟩ : ∃ x, x = F2 := ⟨_, rfl⟩
                rw [← hF] at HSF2 HS6 HF2
                clear hF
                have HS := HS6
                have HSF0 := HSF
                have HSF := HSF2
                clear HS6 HSF2
                obtain ⟨AT, cT, hbt, hrt⟩ := HS.out.t
                have HBT := hide hbt
                have HTr := hide hrt
                obtain ⟨AF, cF, hbf, hrf⟩ := HS.out.f
                have HBF := hide hbf
                have HFr := hide hrf
                have HBW := hide HS.out.wh
                have HWr := hide HS.out.r
                clear hbt hrt hbf hrf
                have HNr := hide (rd_at HN.out HS.out.bel)
                have hpo := plan_ok (ofL_nf need) HST.out HSF0.out
                rw [← HF2.out] at hpo
                obtain ⟨qa, hqa⟩ : ∃ x, ofL need = x := ⟨_, rfl⟩
                obtain ⟨qb, hqb⟩ : ∃ x, andL qa allP = x := ⟨_, rfl⟩
                obtain ⟨qc, hqc⟩ : ∃ x, lessL qb T = x := ⟨_, rfl⟩
                obtain ⟨qd, hqd⟩ : ∃ x, lessL qc F = x := ⟨_, rfl⟩
                have hnb : Nf qb := by rw [← hqb, ← hqa]; exact andL_nf _ _ (ofL_nf _) all_nf
                have hbi : ∀ a, Cov qb a → 0 ≤ a ∧ a < 120 := fun a ha => by rw [← hqb, andL_cov _ _ (by rw [← hqa]; exact ofL_nf _) all_nf, all_cov] at ha; exact ha.2
                have hnc : Nf qc := by rw [← hqc]; exact lessL_nf _ _ hnb HST.out.nf
                have hci : ∀ a, Cov qc a → 0 ≤ a ∧ a < 120 := fun a ha => by rw [← hqc, lessL_cov _ _ hnb HST.out.nf] at ha; exact hbi a ha.1
                have HNa := hide (show Nf qa by rw [← hqa]; exact ofL_nf _)
                have HLa := hide (show qa.length ≤ 500000 by rw [← hqa]; have := ofL_len need; omega)
                have HLN := hide (show need.length ≤ 1000000 by omega)
                have HLw := hide (show allP.length ≤ 500000 by decide)
                have HLb := hide (show qb.length ≤ 1000 by have := within_len hnb hbi; omega)
                have HLc := hide (show qc.length ≤ 1000 by have := within_len hnc hci; omega)
                have HLf := hide (show F.length ≤ 1000 by have := HSF.out.len; omega)
                have HE1 := hide hqa
                have HE2 := hide hqb
                have HE3 := hide hqc
                have HE4 := hide hqd
                have HQD := hide (show qd = lessL (lessL (andL (ofL need) allP) T) F by rw [← hqd, ← hqc, ← hqb, ← hqa])
                clear hqa hqb hqc hqd hnb hbi hnc hci
                have HPO := hide hpo
                clear hpo
                have SMK := hide (show ∀ W : World, Below wr.heap.size wr W → (Below wr.heap.size wr W ∧ W.cell? ⟨gW, 0, none⟩ = some (.slice AW 1 cW) ∧ W.cell? ⟨gT, 0, none⟩ = some (.slice AT T.length cT) ∧ W.cell? ⟨gY, 0, none⟩ = some (.slice AF F.length cF)) from fun W h => ⟨h, (HBW.out.below h HBW.out.lt).cell 0, (HBT.out.below h HBT.out.lt).cell 0, (HBF.out.below h HBF.out.lt).cell 0⟩)
                go_cut [18] (fun p18 wx => ∃ (gG : Nat) (AG : Option Addr) (cG : Nat), p18 = .pointer (some ⟨gG, 0, none⟩) ∧ Blk wx gG 28 #[.slice AG qd.length cG] ∧ RdL LSp wx wx.heap.size (.slice AG qd.length cG) qd ∧ wr.heap.size ≤ gG ∧ Below wr.heap.size wr wx)
                case first =>
                  clear SMK
                  refine wp_region_mem 9 [94, 95, 96, 97, 98, 99, 100, 101, 18] (by kernel_rfl) (by kernel_rfl) (fun i v W => match i with | 0 => v = .slice A1 need.length c1 | 1 => ∃ A c, v = .agg #[.slice A qa.length c] ∧ RdL LSp W W.heap.size (.slice A qa.length c) qa | 2 => v = .agg #[.slice AW 1 cW] | 3 => ∃ A c, v = .agg #[.slice A qb.length c] ∧ RdL LSp W W.heap.size (.slice A qb.length c) qb | 4 => v = .agg #[.slice AT T.length cT] | 5 => ∃ A c, v = .agg #[.slice A qc.length c] ∧ RdL LSp W W.heap.size (.slice A qc.length c) qc | 6 => v = .agg #[.slice AF F.length cF] | 7 => ∃ A c, v = .agg #[.slice A qd.length c] ∧ RdL LSp W W.heap.size (.slice A qd.length c) qd | 8 => ∃ g, v = .pointer (some ⟨g, 0, none⟩) ∧ wr.heap.size ≤ g ∧ Blk W g 28 #[.slice none 0 0] | _ => True) ?mono ?step ?fin ?last
                  case mono =>
                    intro i v w w' h hbw
                    rcases i with _ | _ | _ | _ | _ | _ | _ | _ | _ | i
                    · exact h
                    · obtain ⟨A, c, rfl, h⟩ := h; exact ⟨A, c, rfl, rd_at h hbw⟩
                    · exact h
                    · obtain ⟨A, c, rfl, h⟩ := h; exact ⟨A, c, rfl, rd_at h hbw⟩
                    · exact h
                    · obtain ⟨A, c, rfl, h⟩ := h; exact ⟨A, c, rfl, rd_at h hbw⟩
                    · exact h
                    · obtain ⟨A, c, rfl, h⟩ := h; exact ⟨A, c, rfl, rd_at h hbw⟩
                    · obtain ⟨g, rfl, h1, h2⟩ := h; exact ⟨g, rfl, h1, h2.below hbw h2.lt⟩
                    · trivial
                  case step =>
                    intro i o a w hin ho hS hb hd
                    rcases i with _ | _ | _ | _ | _ | _ | _ | _ | _ | i
                    · obtain rfl := Option.some.inj ho
                      have hx : a.tmps[0]?.getD undef = .slice A1 need.length c1 := by rw [← slot_get, slot_old hS (by decide)]; rfl
                      refine op_run (v := .slice A1 need.length c1) (w' := w) (by simp [execOp, go_sem, hx]) ?_
                      exact ⟨_, rfl, Below.refl _ _, rfl⟩
                    · obtain rfl := Option.some.inj ho
                      have dD0 := hd ⟨0, .data⟩ (by simp) rfl
                      have h0 : a.tmps[94]?.getD undef = .slice A1 need.length c1 := by rw [← slot_get]; exact dD0
                      refine op_call (f := 7) (args := #[.slice A1 need.length c1]) (by simp [execOp, go_sem, h0]) (of_to (rd_at HNr.out hb) HLN.out HE1.out) ?_
                      rintro e w' ⟨v, rfl, h, hbw⟩
                      obtain ⟨A8, c8, hv8, -, -⟩ := h.form
                      subst hv8
                      exact ⟨_, rfl, _, rfl, hbw, _, _, rfl, h⟩
                    · obtain rfl := Option.some.inj ho
                      have hx : a.tmps[9]?.getD undef = .pointer (some ⟨gW, 0, none⟩) := by rw [← slot_get, slot_old hS (by decide)]; rfl
                      have hc : w.cell? ⟨gW, 0, none⟩ = some (.slice AW 1 cW) := (HBW.out.below hb HBW.out.lt).cell 0
                      refine op_run (v := .agg #[.slice AW 1 cW]) (w' := w) (by simp [execOp, go_sem, hx, hc]) ?_
                      exact ⟨_, rfl, Below.refl _ _, rfl⟩
                    · obtain rfl := Option.some.inj ho
                      obtain ⟨AD0, cD0, dD0, hq0⟩ := hd ⟨1, .data⟩ (by simp) rfl
                      have h0 : a.tmps[95]?.getD undef = .agg #[.slice AD0 qa.length cD0] := by rw [← slot_get]; exact dD0
                      have dD1 := hd ⟨2, .data⟩ (by simp) rfl
                      have h1 : a.tmps[96]?.getD undef = .agg #[.slice AW 1 cW] := by rw [← slot_get]; exact dD1
                      refine op_call (f := 19) (args := #[.agg #[.slice AD0 qa.length cD0], .agg #[.slice AW 1 cW]]) (by simp [execOp, go_sem, h0, h1]) (and_to (r := qb) hq0 (rd_at HWr.out hb) HNa.out all_nf HLa.out HLw.out HE2.out) ?_
                      rintro e w' ⟨v, rfl, h, hbw⟩
                      obtain ⟨A8, c8, hv8, -, -⟩ := h.form
                      subst hv8
                      exact ⟨_, rfl, _, rfl, hbw, _, _, rfl, h⟩
                    · obtain rfl := Option.some.inj ho
                      have hx : a.tmps[10]?.getD undef = .pointer (some ⟨gT, 0, none⟩) := by rw [← slot_get, slot_old hS (by decide)]; rfl
                      have hc : w.cell? ⟨gT, 0, none⟩ = some (.slice AT T.length cT) := (HBT.out.below hb HBT.out.lt).cell 0
                      refine op_run (v := .agg #[.slice AT T.length cT]) (w' := w) (by simp [execOp, go_sem, hx, hc]) ?_
                      exact ⟨_, rfl, Below.refl _ _, rfl⟩
                    · obtain rfl := Option.some.inj ho
                      obtain ⟨AD0, cD0, dD0, hq0⟩ := hd ⟨3, .data⟩ (by simp) rfl
                      have h0 : a.tmps[97]?.getD undef = .agg #[.slice AD0 qb.length cD0] := by rw [← slot_get]; exact dD0
                      have dD1 := hd ⟨4, .data⟩ (by simp) rfl
                      have h1 : a.tmps[98]?.getD undef = .agg #[.slice AT T.length cT] := by rw [← slot_get]; exact dD1
                      refine op_call (f := 8) (args := #[.agg #[.slice AD0 qb.length cD0], .agg #[.slice AT T.length cT]]) (by simp [execOp, go_sem, h0, h1]) (less_to (r := qc) hq0 (rd_at HTr.out hb) HLb.out HLt.out HE3.out) ?_
                      rintro e w' ⟨v, rfl, h, hbw⟩
                      obtain ⟨A8, c8, hv8, -, -⟩ := h.form
                      subst hv8
                      exact ⟨_, rfl, _, rfl, hbw, _, _, rfl, h⟩
                    · obtain rfl := Option.some.inj ho
                      have hx : a.tmps[11]?.getD undef = .pointer (some ⟨gY, 0, none⟩) := by rw [← slot_get, slot_old hS (by decide)]; rfl
                      have hc : w.cell? ⟨gY, 0, none⟩ = some (.slice AF F.length cF) := (HBF.out.below hb HBF.out.lt).cell 0
                      refine op_run (v := .agg #[.slice AF F.length cF]) (w' := w) (by simp [execOp, go_sem, hx, hc]) ?_
                      exact ⟨_, rfl, Below.refl _ _, rfl⟩
                    · obtain rfl := Option.some.inj ho
                      obtain ⟨AD0, cD0, dD0, hq0⟩ := hd ⟨5, .data⟩ (by simp) rfl
                      have h0 : a.tmps[99]?.getD undef = .agg #[.slice AD0 qc.length cD0] := by rw [← slot_get]; exact dD0
                      have dD1 := hd ⟨6, .data⟩ (by simp) rfl
                      have h1 : a.tmps[100]?.getD undef = .agg #[.slice AF F.length cF] := by rw [← slot_get]; exact dD1
                      refine op_call (f := 8) (args := #[.agg #[.slice AD0 qc.length cD0], .agg #[.slice AF F.length cF]]) (by simp [execOp, go_sem, h0, h1]) (less_to (r := qd) hq0 (rd_at HFr.out hb) HLc.out HLf.out HE4.out) ?_
                      rintro e w' ⟨v, rfl, h, hbw⟩
                      obtain ⟨A8, c8, hv8, -, -⟩ := h.form
                      subst hv8
                      exact ⟨_, rfl, _, rfl, hbw, _, _, rfl, h⟩
                    · obtain rfl := Option.some.inj ho
                      refine op_run (v := .pointer (some ⟨w.heap.size, 0, none⟩)) (w' := w.alloc (.cells #[.slice none 0 0] 28)) (by kernel_rfl) ?_
                      exact ⟨_, rfl, (Below.refl _ _).alloc (Nat.le_refl _) _, _, rfl, hb.size, Blk.new _ _ _⟩
                    · omega
                  case fin =>
                    intro h; exact absurd h (by decide)
                  case last =>
                    intro _ o a w ho hS hb hG
                    obtain rfl := Option.some.inj ho
                    obtain ⟨A7, c7, d4, hq⟩ := hG 7 (by decide)
                    obtain ⟨g, d5, hgw, hbg⟩ := hG 8 (by decide)
                    have h0 : a.tmps[18]?.getD undef = .pointer (some ⟨g, 0, none⟩) := by rw [← slot_get]; exact d5
                    have h1 : a.tmps[101]?.getD undef = .agg #[.slice A7 qd.length c7] := by rw [← slot_get]; exact d4
                    have hc : w.cell? ⟨g, 0, none⟩ = some (.slice none 0 0) := hbg.cell 0
                    have hf := hbg.frozen 0
                    refine op_skip0 rfl (w' := w.setCell ⟨g, 0, none⟩ (.slice A7 qd.length c7)) (by simp [execOp, go_sem, h0, h1, hc, hf]) ?_
                    have hl := hS.lit
                    simp only [List.foldl, List.setIfInBounds_toArray, List.set_cons_zero, List.set_cons_succ] at hl
                    have s18 : slot a 18 = _ := d5
                    have s101 : slot a 101 = _ := d4
                    rw [s18, s101] at hl
                    generalize slot a 94 = z94 at hl
                    generalize slot a 95 = z95 at hl
                    generalize slot a 96 = z96 at hl
                    generalize slot a 97 = z97 at hl
                    generalize slot a 98 = z98 at hl
                    generalize slot a 99 = z99 at hl
                    generalize slot a 100 = z100 at hl
                    subst hl
                    clear hG hS
                    go_wp2_with fail
                    go_meet
                    exact ⟨_, _, _, rfl, set1 hbg _, rd_setS hq hbg _, hgw, below_set hb hgw _⟩
                case rest =>
                  obtain ⟨gG, AG, cG, rfl, hbG, hrG, hgG, hbc⟩ := hcut
                  have HS2 := hide (HS.out.below hbc)
                  have HBG := hide hbG
                  have HGr := hide hrG
                  skip
                  clear HS HNr HTr HFr HWr HBT HBF HBW SMK HE1 HE2 HE3 HE4 HNa HLa HLN HLb HLc hbG hrG hgG hbc
                  obtain ⟨wr, hwr⟩ : ∃ W : World, W = wc := ⟨_, rfl⟩
                  rw [← hwr] at HS2 HBG HGr ⊢
                  clear hwr
                  have HS := HS2
                  clear HS2
                  obtain ⟨AT, cT, hbt, hrt⟩ := HS.out.t
                  have HBT := hide hbt
                  have HTr := hide hrt
                  obtain ⟨AF, cF, hbf, hrf⟩ := HS.out.f
                  have HBF := hide hbf
                  have HFr := hide hrf
                  have HBW := hide HS.out.wh
                  have HWr := hide HS.out.r
                  clear hbt hrt hbf hrf
                  obtain ⟨gp, hgp⟩ : ∃ x, x = qd := ⟨_, rfl⟩
                  rw [← hgp] at HBG HGr HQD
                  clear hgp
                  obtain ⟨qb, hqb⟩ : ∃ x, lessL allP T = x := ⟨_, rfl⟩
                  obtain ⟨qd, hqd⟩ : ∃ x, lessL qb F = x := ⟨_, rfl⟩
                  have hsb : SetP qb := by rw [← hqb]; exact SetP.all.less HST.out
                  have HLc := hide (show qb.length ≤ 1000 by have := hsb.len; omega)
                  have HLw := hide (show allP.length ≤ 1000 by decide)
                  have HE1 := hide hqb
                  have HE2 := hide hqd
                  have HQF := hide (show qd = lessL (lessL allP T) F by rw [← hqd, ← hqb])
                  clear hqb hqd hsb
                  have SMK := hide (show ∀ W : World, Below wr.heap.size wr W → (Below wr.heap.size wr W ∧ W.cell? ⟨gW, 0, none⟩ = some (.slice AW 1 cW) ∧ W.cell? ⟨gT, 0, none⟩ = some (.slice AT T.length cT) ∧ W.cell? ⟨gY, 0, none⟩ = some (.slice AF F.length cF)) from fun W h => ⟨h, (HBW.out.below h HBW.out.lt).cell 0, (HBT.out.below h HBT.out.lt).cell 0, (HBF.out.below h HBF.out.lt).cell 0⟩)
                  go_upto_region 25 with fail
                  go_cut [19] (fun p18 wx => ∃ (gG : Nat) (AG : Option Addr) (cG : Nat), p18 = .pointer (some ⟨gG, 0, none⟩) ∧ Blk wx gG 28 #[.slice AG qd.length cG] ∧ RdL LSp wx wx.heap.size (.slice AG qd.length cG) qd ∧ wr.heap.size ≤ gG ∧ Below wr.heap.size wr wx)
                  case first =>
                    clear SMK
                    refine wp_region_mem 6 [102, 103, 104, 105, 106, 19] (by kernel_rfl) (by kernel_rfl) (fun i v W => match i with | 0 => v = .agg #[.slice AW 1 cW] | 1 => v = .agg #[.slice AT T.length cT] | 2 => ∃ A c, v = .agg #[.slice A qb.length c] ∧ RdL LSp W W.heap.size (.slice A qb.length c) qb | 3 => v = .agg #[.slice AF F.length cF] | 4 => ∃ A c, v = .agg #[.slice A qd.length c] ∧ RdL LSp W W.heap.size (.slice A qd.length c) qd | 5 => ∃ g, v = .pointer (some ⟨g, 0, none⟩) ∧ wr.heap.size ≤ g ∧ Blk W g 28 #[.slice none 0 0] | _ => True) ?mono ?step ?fin ?last
                    case mono =>
                      intro i v w w' h hbw
                      rcases i with _ | _ | _ | _ | _ | _ | i
                      · exact h
                      · exact h
                      · obtain ⟨A, c, rfl, h⟩ := h; exact ⟨A, c, rfl, rd_at h hbw⟩
                      · exact h
                      · obtain ⟨A, c, rfl, h⟩ := h; exact ⟨A, c, rfl, rd_at h hbw⟩
                      · obtain ⟨g, rfl, h1, h2⟩ := h; exact ⟨g, rfl, h1, h2.below hbw h2.lt⟩
                      · trivial
                    case step =>
                      intro i o a w hin ho hS hb hd
                      rcases i with _ | _ | _ | _ | _ | _ | i
                      · obtain rfl := Option.some.inj ho
                        have hx : a.tmps[9]?.getD undef = .pointer (some ⟨gW, 0, none⟩) := by rw [← slot_get, slot_old hS (by decide)]; rfl
                        have hc : w.cell? ⟨gW, 0, none⟩ = some (.slice AW 1 cW) := (HBW.out.below hb HBW.out.lt).cell 0
                        refine op_run (v := .agg #[.slice AW 1 cW]) (w' := w) (by simp [execOp, go_sem, hx, hc]) ?_
                        exact ⟨_, rfl, Below.refl _ _, rfl⟩
                      · obtain rfl := Option.some.inj ho
                        have hx : a.tmps[10]?.getD undef = .pointer (some ⟨gT, 0, none⟩) := by rw [← slot_get, slot_old hS (by decide)]; rfl
                        have hc : w.cell? ⟨gT, 0, none⟩ = some (.slice AT T.length cT) := (HBT.out.below hb HBT.out.lt).cell 0
                        refine op_run (v := .agg #[.slice AT T.length cT]) (w' := w) (by simp [execOp, go_sem, hx, hc]) ?_
                        exact ⟨_, rfl, Below.refl _ _, rfl⟩
                      · obtain rfl := Option.some.inj ho
                        have d0 := hd ⟨0, .data⟩ (by simp) rfl
                        have d1 := hd ⟨1, .data⟩ (by simp) rfl
                        have h0 : a.tmps[102]?.getD undef = .agg #[.slice AW 1 cW] := by rw [← slot_get]; exact d0
                        have h1 : a.tmps[103]?.getD undef = .agg #[.slice AT T.length cT] := by rw [← slot_get]; exact d1
                        refine op_call (f := 8) (args := #[.agg #[.slice AW 1 cW], .agg #[.slice AT T.length cT]]) (by simp [execOp, go_sem, h0, h1]) (less_to (r := qb) (rd_at HWr.out hb) (rd_at HTr.out hb) HLw.out HLt.out HE1.out) ?_
                        rintro e w' ⟨v, rfl, h, hbw⟩
                        obtain ⟨A8, c8, hv8, -, -⟩ := h.form
                        subst hv8
                        exact ⟨_, rfl, _, rfl, hbw, _, _, rfl, h⟩
                      · obtain rfl := Option.some.inj ho
                        have hx : a.tmps[11]?.getD undef = .pointer (some ⟨gY, 0, none⟩) := by rw [← slot_get, slot_old hS (by decide)]; rfl
                        have hc : w.cell? ⟨gY, 0, none⟩ = some (.slice AF F.length cF) := (HBF.out.below hb HBF.out.lt).cell 0
                        refine op_run (v := .agg #[.slice AF F.length cF]) (w' := w) (by simp [execOp, go_sem, hx, hc]) ?_
                        exact ⟨_, rfl, Below.refl _ _, rfl⟩
                      · obtain rfl := Option.some.inj ho
                        obtain ⟨A7, c7, d0, hq⟩ := hd ⟨2, .data⟩ (by simp) rfl
                        have d1 := hd ⟨3, .data⟩ (by simp) rfl
                        have h0 : a.tmps[104]?.getD undef = .agg #[.slice A7 qb.length c7] := by rw [← slot_get]; exact d0
                        have h1 : a.tmps[105]?.getD undef = .agg #[.slice AF F.length cF] := by rw [← slot_get]; exact d1
                        refine op_call (f := 8) (args := #[.agg #[.slice A7 qb.length c7], .agg #[.slice AF F.length cF]]) (by simp [execOp, go_sem, h0, h1]) (less_to (r := qd) hq (rd_at HFr.out hb) HLc.out HLf.out HE2.out) ?_
                        rintro e w' ⟨v, rfl, h, hbw⟩
                        obtain ⟨A8, c8, hv8, -, -⟩ := h.form
                        subst hv8
                        exact ⟨_, rfl, _, rfl, hbw, _, _, rfl, h⟩
                      · obtain rfl := Option.some.inj ho
                        refine op_run (v := .pointer (some ⟨w.heap.size, 0, none⟩)) (w' := w.alloc (.cells #[.slice none 0 0] 28)) (by kernel_rfl) ?_
                        exact ⟨_, rfl, (Below.refl _ _).alloc (Nat.le_refl _) _, _, rfl, hb.size, Blk.new _ _ _⟩
                      · omega
                    case fin => intro h; exact absurd h (by decide)
                    case last =>
                      intro _ o a w ho hS hb hG
                      obtain rfl := Option.some.inj ho
                      obtain ⟨A7, c7, d4, hq⟩ := hG 4 (by decide)
                      obtain ⟨g, d5, hgw, hbg⟩ := hG 5 (by decide)
                      have h0 : a.tmps[19]?.getD undef = .pointer (some ⟨g, 0, none⟩) := by rw [← slot_get]; exact d5
                      have h1 : a.tmps[106]?.getD undef = .agg #[.slice A7 qd.length c7] := by rw [← slot_get]; exact d4
                      have hc : w.cell? ⟨g, 0, none⟩ = some (.slice none 0 0) := hbg.cell 0
                      have hf := hbg.frozen 0
                      refine op_skip0 rfl (w' := w.setCell ⟨g, 0, none⟩ (.slice A7 qd.length c7)) (by simp [execOp, go_sem, h0, h1, hc, hf]) ?_
                      have hl := hS.lit
                      simp only [List.foldl, List.setIfInBounds_toArray, List.set_cons_zero, List.set_cons_succ] at hl
                      have s19 : slot a 19 = _ := d5
                      have s106 : slot a 106 = _ := d4
                      rw [s19, s106] at hl
                      generalize slot a 102 = z2 at hl
                      generalize slot a 103 = z3 at hl
                      generalize slot a 104 = z4 at hl
                      generalize slot a 105 = z5 at hl
                      subst hl
                      have hq9 := hq
                      clear hG hS
                      go_wp2_with fail
                      go_meet
                      exact ⟨_, _, _, rfl, set1 hbg _, rd_setS hq hbg _, hgw, below_set hb hgw _⟩
                  case rest =>
                    obtain ⟨gE, AE, cE, rfl, hbE, hrE, hgE, hbc⟩ := hcut
                    obtain ⟨wr2, hwr⟩ : ∃ W : World, W = wc := ⟨_, rfl⟩
                    rw [← hwr] at hbE hrE hbc ⊢
                    clear hwr
                    have HS2 := hide (HS.out.below hbc)
                    have HG2 := hide (HBG.out.below hbc HBG.out.lt)
                    have HGr2 := hide (rd_at HGr.out hbc)
                    have HBE := hide hbE
                    have HEr := hide hrE
                    have HPO2 := hide (show PlanOk gp qd by rw [HQD.out, HQF.out]; exact HPO.out)
                    have HTH := hide (show andL (ofL (planL (wideL gp))) T = [] from by have := HPO2.out; rw [HQF.out] at this; exact got_there HST.out HSF.out this)
                    have HFL := hide (show andL (ofL (planL (wideL gp))) F = [] from by have := HPO2.out; rw [HQF.out] at this; exact got_fly HST.out HSF.out this)
                    clear HS HBG HGr hbE hrE hgE hbc HTr HFr HWr HBT HBF HBW SMK HE1 HE2 HLc HPO HQD HQF HF2
                    have cC := HS2.out.c.cell
                    have cG := HG2.out.cell
                    have cE := HBE.out.cell
                    go_wp2_with fail
                    refine (plan_any _ _ gp qd HPO2.out wr2 HGr2.out HEr.out).mono ?_
                    rintro e w3 ⟨v3, rfl, h3, hb3⟩
                    obtain ⟨A3', c3', hv3, _, _⟩ := h3.rd.form
                    subst hv3
                    have HL3 := hide h3.rd
                    have HS3 := hide (HS2.out.below hb3)
                    have HG3 := hide (HG2.out.below hb3 HG2.out.lt)
                    have HGr3 := hide (rd_at HGr2.out hb3)
                    have HE3 := hide (HBE.out.below hb3 HBE.out.lt)
                    have HEr3 := hide (rd_at HEr.out hb3)
                    obtain ⟨l, hl⟩ : ∃ x, x = planL (wideL gp) := ⟨_, rfl⟩
                    have HEL := hide hl
                    rw [← hl] at HL3 HTH HFL ⊢
                    have hl120 : l.length ≤ 120 := by rw [hl]; exact plan_len HPO2.out
                    clear hl h3 hb3 cC cG cE HS2 HG2 HGr2 HBE HEr
                    have cC := HS3.out.c.cell
                    have cG := HG3.out.cell
                    have cE := HE3.out.cell
                    go_wp2_with fail
                    refine (right_yes _ _ _ gp qd l HPO2.out HEL.out w3 HGr3.out HEr3.out HL3.out).mono ?_
                    rintro e w4 ⟨rfl, hb4⟩
                    have HS4 := hide (HS3.out.below hb4)
                    have HG4 := hide (HG3.out.below hb4 HG3.out.lt)
                    have HGr4 := hide (rd_at HGr3.out hb4)
                    have HL4 := hide (rd_at HL3.out hb4)
                    clear cC cG cE HS3 HG3 HGr3 HE3 HEr3 HL3 hb4
                    go_wp2_with fail
                    refine (of_any _ l w4 HL4.out (by omega)).mono ?_
                    rintro e w5 ⟨v5, rfl, h5, hb5⟩
                    obtain ⟨A5', c5', hv5, _, _⟩ := h5.form
                    subst hv5
                    have HS5 := hide (HS4.out.below hb5)
                    have HG5 := hide (HG4.out.below hb5 HG4.out.lt)
                    have HGr5 := hide (rd_at HGr4.out hb5)
                    have HL5 := hide (rd_at HL4.out hb5)
                    have HO5 := hide h5
                    clear HS4 HG4 HGr4 HL4 h5 hb5
                    go_upto_region 31 with fail
                    obtain ⟨w6, hw6⟩ : ∃ W : World, W = w5.alloc (.cells #[.slice A5' (ofL l).length c5'] 28) := ⟨_, rfl⟩
                    rw [← hw6]
                    obtain ⟨gO, hgO⟩ : ∃ n, n = w5.heap.size := ⟨_, rfl⟩
                    rw [← hgO]
                    have HBO := hide (show Blk w6 gO 28 #[.slice A5' (ofL l).length c5'] by rw [hw6, hgO]; exact Blk.new _ _ _)
                    have HOr := hide (show RdL LSp w6 w6.heap.size (.slice A5' (ofL l).length c5') (ofL l) by rw [hw6]; exact rd_al HO5.out)
                    have HS6 := hide (show PSt w gC gW gT gY AW cW T F w6 by rw [hw6]; exact HS5.out.alloc _)
                    have HG6 := hide (show Blk w6 gG 28 #[.slice AG gp.length cG] by rw [hw6]; exact HG5.out.alloc _)
                    have HGr6 := hide (show RdL LSp w6 w6.heap.size _ gp by rw [hw6]; exact rd_al HGr5.out)
                    have HL6 := hide (show RdL LSp w6 w6.heap.size _ l by rw [hw6]; exact rd_al HL5.out)
                    clear hw6 hgO HS5 HG5 HGr5 HL5 HO5
                    have HLD := hide (show ∀ x ∈ l, 0 ≤ x.1 ∧ x.1 < x.2 ∧ x.2 ≤ 120 from fun x hx => by rw [HEL.out] at hx; have := plan_piece HPO2.out x hx; have h9 := this.ok; unfold okS at h9; exact ⟨h9.1, h9.2.1, this.hi⟩)
                    go_wp2_with fail
                    go_loopw [23, 25, 128] (fun c23 _ c128 wr => ∃ k : Nat, k ≤ l.length ∧ c128 = .int .i64 (k : Int) ∧ c23 = .int .i64 (sumL (l.take k)) ∧ Below w6.heap.size w6 wr) (fun _ _ c128 _ => l.length - (intOf c128).toNat)
                    case atStart => exact ⟨0, Nat.zero_le _, rfl, rfl, Below.refl _ _⟩
                    case round =>
                      obtain ⟨k, hk, rfl, rfl, hb⟩ := hrel
                      by_cases hlt : k < l.length
                      · obtain ⟨b0, off, hA, hbl, p0, p1⟩ := HL6.out.span k hlt
                        subst hA
                        obtain ⟨sf, sto, hx⟩ : ∃ a b : Int, l[k] = (a, b) := ⟨_, _, rfl⟩
                        have hxl := HLD.out l[k] (List.getElem_mem hlt)
                        have hst := sum_take hlt
                        rw [hx] at p0 p1 hxl hst
                        simp only at p0 p1 hxl hst
                        have e0 : wr.cell? ⟨b0, off + k * 2, none⟩ = some (.int .i64 sf) := by rw [hb.cell (by show b0 < _; omega)]; exact p0
                        have e1 : wr.cell? ⟨b0, off + k * 2 + 1, none⟩ = some (.int .i64 sto) := by rw [hb.cell (by show b0 < _; omega)]; exact p1
                        have hsb := sum_bdP HLD.out k hk
                        have hb2 := hb.alloc hb.size (.cells #[.int .i64 sf, .int .i64 sto] 31)
                        have HST9 := hide hst
                        have HX := hide hx
                        clear p0 p1 hst hx
                        obtain ⟨sm, hsm⟩ : ∃ z, sumL (l.take k) = z := ⟨_, rfl⟩
                        rw [hsm] at hsb HST9 ⊢
                        clear hsm
                        go_wp2_with fail
                        go_roundw
                        case rel => exact ⟨k + 1, by omega, by go_num, by rw [HST9.out], hb2⟩
                        case measure => simp [intOf] <;> omega
                      · obtain rfl : k = l.length := by omega
                        have hsum : sumL (l.take l.length) = sumL (ofL l) := by rw [List.take_length, HEL.out]; exact (got_sum HPO2.out).symm
                        rw [hsum]
                        clear hsum
                        have HS7 := hide (HS6.out.below hb)
                        have HG7 := hide (HG6.out.below hb HG6.out.lt)
                        have HGr7 := hide (rd_at HGr6.out hb)
                        have HBO7 := hide (HBO.out.below hb HBO.out.lt)
                        have HOr7 := hide (rd_at HOr.out hb)
                        clear HS6 HG6 HGr6 HBO HOr HL6 hb
                        obtain ⟨wz, hwz⟩ : ∃ W : World, W = wr := ⟨_, rfl⟩
                        rw [← hwz] at HS7 HG7 HGr7 HBO7 HOr7 ⊢
                        clear hwz
                        have hgl : (ofL l).length ≤ 120 := Nat.le_trans (ofL_len _) hl120
                        have HLo := hide (show (ofL l).length ≤ 500000 by omega)
                        have HLo2 := hide (show (ofL l).length ≤ 1000 by omega)
                        have HLt := hide (show T.length ≤ 500000 by have := HST.out.len; omega)
                        have HLf := hide (show F.length ≤ 500000 by have := HSF.out.len; omega)
                        have HLg := hide (show gp.length ≤ 1000 by have := HPO2.out.glen; omega)
                        have HGP := hide (show lessL gp (ofL l) = [] by rw [HEL.out]; exact got_gaps HPO2.out)
                        have HOH := hide (show ∀ x ∈ ofL l, x.2 ≤ 1099511627776 from set_hi (ofL_nf l) (fun a ha => by rw [HEL.out, got_cov HPO2.out] at ha; exact HPO2.out.wset.inn a ha))
                        obtain ⟨so, hso⟩ : ∃ z, sumL (ofL l) = z := ⟨_, rfl⟩
                        rw [hso]
                        have HSO := hide hso
                        clear hso
                        obtain ⟨AT, cT, hbt, hrt⟩ := HS7.out.t
                        have HTr := hide hrt
                        have cT := hbt.cell
                        have cO := HBO7.out.cell
                        clear hbt hrt
                        go_wp2_with fail
                        refine (and_to HOr7.out HTr.out (ofL_nf l) HST.out.nf HLo.out HLt.out HTH.out).mono ?_
                        rintro e w8 ⟨v8, rfl, h8, hb8⟩
                        obtain ⟨A8, c8, hv8, _, _⟩ := h8.form
                        subst hv8
                        have hB8 := hb8
                        clear cT cO HTr
                        go_wp2_with fail
                        refine (len_empty _ w8 h8).mono ?_
                        rintro e w9 ⟨rfl, hb9⟩
                        have hB9 := hB8.trans (hb9.mono hB8.size)
                        have HS9 := hide (HS7.out.below hB9)
                        have HG9 := hide (HG7.out.below hB9 HG7.out.lt)
                        have HGr9 := hide (rd_at HGr7.out hB9)
                        have HBO9 := hide (HBO7.out.below hB9 HBO7.out.lt)
                        have HOr9 := hide (rd_at HOr7.out hB9)
                        clear HS7 HG7 HGr7 HBO7 HOr7 hb8 hb9 hB8 hB9 h8
                        obtain ⟨AF, cF, hbf, hrf⟩ := HS9.out.f
                        have HFr := hide hrf
                        have cF := hbf.cell
                        have cO := HBO9.out.cell
                        clear hbf hrf
                        go_wp2_with fail
                        refine (and_to HOr9.out HFr.out (ofL_nf l) HSF.out.nf HLo.out HLf.out HFL.out).mono ?_
                        rintro e wa8 ⟨va8, rfl, ha8, hb8⟩
                        obtain ⟨A9, c9, hv9, _, _⟩ := ha8.form
                        subst hv9
                        clear cF cO HFr
                        go_wp2_with fail
                        refine (len_empty _ wa8 ha8).mono ?_
                        rintro e wa9 ⟨rfl, hb9⟩
                        have hB9 := hb8.trans (hb9.mono hb8.size)
                        have HSa := hide (HS9.out.below hB9)
                        have HGa := hide (HG9.out.below hB9 HG9.out.lt)
                        have HGra := hide (rd_at HGr9.out hB9)
                        have HBOa := hide (HBO9.out.below hB9 HBO9.out.lt)
                        have HOra := hide (rd_at HOr9.out hB9)
                        clear HS9 HG9 HGr9 HBO9 HOr9 hb8 hb9 hB9 ha8
                        have cG := HGa.out.cell
                        have cO := HBOa.out.cell
                        go_wp2_with fail
                        refine (less_to HGra.out HOra.out HLg.out HLo2.out HGP.out).mono ?_
                        rintro e wb8 ⟨vb8, rfl, hb8r, hb8⟩
                        obtain ⟨Ab, cb, hvb, _, _⟩ := hb8r.form
                        subst hvb
                        clear cG cO
                        go_wp2_with fail
                        refine (len_empty _ wb8 hb8r).mono ?_
                        rintro e wb9 ⟨rfl, hb9⟩
                        have hB9 := hb8.trans (hb9.mono hb8.size)
                        have HSb := hide (HSa.out.below hB9)
                        have HBOb := hide (HBOa.out.below hB9 HBOa.out.lt)
                        have HOrb := hide (rd_at HOra.out hB9)
                        clear HSa HGa HGra HBOa HOra hb8 hb9 hB9 hb8r
                        have cO := HBOb.out.cell
                        go_wp2_with fail
                        refine (slen_any _ (ofL l) wb9 HOrb.out (ofL_nf l) HOH.out).mono ?_
                        rw [HSO.out]
                        rintro e wz1 ⟨rfl, hbz1⟩
                        have HSz := hide (HSb.out.below hbz1)
                        clear cO HSb HBOb HOrb hbz1
                        go_wp2_with fail
                        refine (alive_any wz1).mono ?_
                        rintro e wz2 ⟨rfl, hbz2⟩
                        have hBz := HSz.out.bel.trans (hbz2.mono HSz.out.bel.size)
                        go_wp2_with fail
                        go_ret
                        exact ⟨rfl, hBz⟩

end Go.Proofs.YtfcbmajogmojbaaDoor.topPlans
