/-
  Puts, one by one; then what a map tells is held against the sets.
-/
import Derived.Test.YtfcbmajogmojbaaDoorTelA
import Derived.Test.YtfcbmajogmojbaaDoorRngI
import Derived.Deep.DeepCutAuto
namespace Go.Proofs.YtfcbmajogmojbaaDoor.topTells
open Go.RowKit Go.Shelf
set_option linter.unusedVariables false
set_option linter.unusedSimpArgs false

theorem rd_drew {α : Type} {L : Lay α} {w : World} {v : Value} {l : List α} (h : RdL L w w.heap.size v l) : RdL L w.drew w.drew.heap.size v l := h
theorem below_drew {w w' : World} (h : Below w.drew.heap.size w.drew w') : Below w.heap.size w w' := ⟨h.os, h.tape, h.output, h.size, h.block⟩
set_option maxRecDepth 100000 in
set_option maxHeartbeats 16000000 in
theorem walk (v : Value) (l : List Pt) (w : World) (hr : RdL LPt w w.heap.size v l) (hvv : ∀ p ∈ l, 0 ≤ p.2.1 ∧ p.2.1 ≤ 255) : Calls Tryd.prog 3 #[v] w (BoolOk true w) := by
  obtain ⟨A, c, rfl, hlc, hc⟩ := hr.form
  have HR := hide hr
  clear hr
  have hB0 := Below.refl w.heap.size w
  go_enter Tryd.func3, Tryd.ntmps3
  by_cases h30 : 30 < l.length
  · have d30 : decide ((l.length : Int) > 30) = true := decide_eq_true (by omega)
    go_wp2_with fail
    refine (alive_any w).mono ?_
    rintro e wz ⟨rfl, hbz⟩
    have hBz := hB0.trans (hbz.mono hB0.size)
    go_wp2_with fail
    go_ret
    exact ⟨rfl, hBz⟩
  · have d30 : decide ((l.length : Int) > 30) = false := decide_eq_false (by omega)
    go_wp2_with fail
    refine (newmap_any w).mono ?_
    rintro e w' ⟨rfl, rfl⟩
    go_upto_region 7 with fail
    obtain ⟨w1, hw1⟩ : ∃ w1 : World, w1 = (w.alloc (.cells #[.slice none 0 0] 58)).alloc (.cells #[.slice none 0 0, .slice none 0 0, .slice none 0 0, .slice none 0 0] 29) := ⟨_, rfl⟩
    rw [← hw1]
    obtain ⟨gm, hgm⟩ : ∃ n, n = w.heap.size := ⟨_, rfl⟩
    obtain ⟨gf, hgf⟩ : ∃ n, n = w.heap.size + 1 := ⟨_, rfl⟩
    have hgm1 : w.heap.size ≤ gm := by omega
    have hgf1 : w.heap.size ≤ gf := by omega
    have HT1 := hide (show Tel gm gf [] (fun i => ofR (i : Int) []) w1 from by
      rw [hw1, hgm, hgf]
      refine ⟨⟨_, (Blk.new _ _ _).alloc _, RdL.nil _ _ _ _ (by omega)⟩, ⟨_, Blk.new' (by simp), rfl, fun i hi => ?_⟩, by omega⟩
      have hi4 : i < 4 := hi
      rcases i with _ | _ | _ | _ | i
      · exact RdL.nil _ _ _ _ (by omega)
      · exact RdL.nil _ _ _ _ (by omega)
      · exact RdL.nil _ _ _ _ (by omega)
      · exact RdL.nil _ _ _ _ (by omega)
      · omega)
    have hB1 : Below w.heap.size w w1 := by rw [hw1]; exact (((Below.refl _ _).alloc (Nat.le_refl _) _).alloc (by simp) _)
    have HGM := hide hgm
    have HGF := hide hgf
    first | rw [← hgf] | skip
    first | rw [← hgm] | skip
    clear hw1 hgm hgf
    go_wp2_with fail
    go_loopw [6, 7, 8, 9, 23, 34] (fun _ _ _ _ c23 _ wr => ∃ (k : Nat) (rs : List Rn), k ≤ l.length ∧ c23 = .int .i64 (k : Int) ∧ Hid (Runs k rs) ∧ Hid (Tel gm gf rs (fun i => ofR (i : Int) rs) wr) ∧ Below w.heap.size w wr) (fun _ _ _ _ c23 _ _ => l.length - (intOf c23).toNat)
    case atStart => exact ⟨0, [], Nat.zero_le _, rfl, Runs.nil, HT1, hB1⟩
    case round =>
      clear HT1 hB1
      obtain ⟨k, rs, hk, rfl, HRN, HT, hb⟩ := hrel
      by_cases hlt : k < l.length
      · obtain ⟨b0, off, hA, hbl, p0, p1, p2, p3⟩ := HR.out.put_ k hlt
        subst hA
        obtain ⟨sf, sto, pv, pd, hx⟩ : ∃ (x0 x1 x2 : Int) (x3 : Bool), l[k] = ((x0, x1), (x2, x3)) := ⟨_, _, _, _, rfl⟩
        have hpv := hvv l[k] (List.getElem_mem hlt)
        rw [hx] at p0 p1 p2 p3 hpv
        simp only at p0 p1 p2 p3 hpv
        have e0 : wr.cell? ⟨b0, off + k * 4, none⟩ = some (.int .i64 sf) := by rw [hb.cell (by show b0 < _; omega)]; exact p0
        have e1 : wr.cell? ⟨b0, off + k * 4 + 1, none⟩ = some (.int .i64 sto) := by rw [hb.cell (by show b0 < _; omega)]; exact p1
        have e2 : wr.cell? ⟨b0, off + k * 4 + 2, none⟩ = some (.int .u8 pv) := by rw [hb.cell (by show b0 < _; omega)]; exact p2
        have e3 : wr.cell? ⟨b0, off + k * 4 + 3, none⟩ = some (.bool pd) := by rw [hb.cell (by show b0 < _; omega)]; exact p3
        clear p0 p1 p2 p3 hx
        go_upto_region 10 with fail
        obtain ⟨w2, hw2⟩ : ∃ W : World, W = wr.alloc (.cells #[.int .i64 sf, .int .i64 sto, .int .u8 pv, .bool pd] 33) := ⟨_, rfl⟩
        rw [← hw2]
        obtain ⟨gp, hgp⟩ : ∃ n, n = wr.heap.size := ⟨_, rfl⟩
        rw [← hgp]
        have HP := hide (show Blk w2 gp 33 #[.int .i64 sf, .int .i64 sto, .int .u8 pv, .bool pd] by rw [hw2, hgp]; exact Blk.new _ _ _)
        have HT2 := hide (show Tel gm gf rs (fun i => ofR (i : Int) rs) w2 by rw [hw2]; exact HT.out.alloc _)
        have hB2 : Below w.heap.size w w2 := by rw [hw2]; exact hb.alloc hb.size _
        have hpm : gp ≠ gm := by have := HT.out.lt; omega
        have hpf : gp ≠ gf := by have := HT.out.lt; omega
        clear hw2 hgp e0 e1 e2 e3 HT hb
        have cP := HP.out.cell
        have R5 : RdL LSp (w2.alloc (.cells #[.int .i64 sf, .int .i64 sto] 31)) (w2.heap.size + 1) (.slice (some ⟨w2.heap.size, 0, none⟩) 1 1) [(sf, sto)] := by
          have := RdL.one_ (L := LSp) (x := (sf, sto)) (Blk.new w2 31 #[.int .i64 sf, .int .i64 sto]) rfl
          simpa using this
        have HR5 := hide (show RdL LSp (w2.alloc (.cells #[.int .i64 sf, .int .i64 sto] 31)) (w2.alloc (.cells #[.int .i64 sf, .int .i64 sto] 31)).heap.size (.slice (some ⟨w2.heap.size, 0, none⟩) 1 1) [(sf, sto)] by simpa using R5)
        clear R5
        go_wp2_with fail
        refine (of_any _ [(sf, sto)] _ HR5.out (by simp)).mono ?_
        rintro e w3 ⟨vS, rfl, hrS, hb3⟩
        obtain ⟨sL, hsL⟩ : ∃ x, x = ofL [(sf, sto)] := ⟨_, rfl⟩
        rw [← hsL] at hrS
        have HSL := hide hsL
        have hsl1 : sL.length ≤ 1 := by rw [hsL]; exact ofL_len _
        clear hsL
        obtain ⟨AS, cS, hvS, _, _⟩ := hrS.form
        subst hvS
        have hb23 : Below w2.heap.size w2 w3 := ((Below.refl _ w2).alloc (Nat.le_refl _) (.cells #[.int .i64 sf, .int .i64 sto] 31)).trans (hb3.mono (by simp))
        have hB3 := hB2.trans (hb23.mono hB2.size)
        have HT3 := hide (HT2.out.below hb23)
        have HP3 := hide (HP.out.below hb23 HP.out.lt)
        have HRS := hide hrS
        clear HT2 hb3 hb23 hrS HR5 cP HP
        have cP := HP3.out.cell
        go_upto_region 11 with fail
        obtain ⟨w4, hw4⟩ : ∃ W : World, W = w3.alloc (.cells #[.slice AS sL.length cS] 28) := ⟨_, rfl⟩
        rw [← hw4]
        obtain ⟨gs, hgs⟩ : ∃ n, n = w3.heap.size := ⟨_, rfl⟩
        rw [← hgs]
        have HS := hide (show Blk w4 gs 28 #[.slice AS sL.length cS] by rw [hw4, hgs]; exact Blk.new _ _ _)
        have HT4 := hide (show Tel gm gf rs (fun i => ofR (i : Int) rs) w4 by rw [hw4]; exact HT3.out.alloc _)
        have HP4 := hide (show Blk w4 gp 33 #[.int .i64 sf, .int .i64 sto, .int .u8 pv, .bool pd] by rw [hw4]; exact HP3.out.alloc _)
        have HR4 := hide (show RdL LSp w4 w4.heap.size (.slice AS sL.length cS) sL by rw [hw4]; exact ((HRS.out.below ((Below.refl _ _).alloc (Nat.le_refl _) _)).mono (by simp)))
        have hB4 : Below w.heap.size w w4 := by rw [hw4]; exact hB3.alloc hB3.size _
        have hsm : gs ≠ gm := by have := HT3.out.lt; omega
        have hsf : gs ≠ gf := by have := HT3.out.lt; omega
        have hsp : gs ≠ gp := by have := HP3.out.lt; omega
        clear hw4 hgs HT3 HP3 HRS cP
        have cP := HP4.out.cell
        obtain ⟨vm, hvm⟩ : ∃ x, pv % 4 = x := ⟨_, rfl⟩
        have hvm0 : 0 ≤ vm := by omega
        have hvm4 : vm < 4 := by omega
        go_wp2_with fail
        rw [hvm]
        have HVM := hide hvm
        clear hvm
        go_loopw [9, 34] (fun _ c34 wr => ∃ (j : Nat), j ≤ 4 ∧ c34 = .int .i64 (j : Int) ∧ Hid (Tel gm gf rs (fun i => if i < j then lessL (ofR (i : Int) rs) sL else ofR (i : Int) rs) wr) ∧ Hid (Blk wr gp 33 #[.int .i64 sf, .int .i64 sto, .int .u8 pv, .bool pd]) ∧ Hid (Blk wr gs 28 #[.slice AS sL.length cS]) ∧ Hid (RdL LSp wr wr.heap.size (.slice AS sL.length cS) sL) ∧ Below w.heap.size w wr) (fun _ c34 _ => 4 - (intOf c34).toNat)
        case atStart => exact ⟨0, by omega, rfl, hide (HT4.out.same fun i _ => by simp), HP4, HS, HR4, hB4⟩
        case round =>
          clear HT4 HP4 HS HR4 cP
          obtain ⟨j, hj, rfl, HT, HP, HS, HRS, hb⟩ := hrel
          by_cases hj4 : j < 4
          · have hk4 : j < 4 := hj4
            have d4 : decide ((j : Int) < 4) = true := decide_eq_true (by omega)
            go_upto_region 15 with fail
            obtain ⟨AK, cK, ck, fk, hrk⟩ := HT.out.got (l := ofR (j : Int) rs) hk4 (by simp)
            have hlq : (ofR (j : Int) rs).length ≤ 600 := by have := ofR_len (j : Int) rs; have := HRN.out.len; omega
            have HL1 := hide (show (ofR (j : Int) rs).length ≤ 1000 by omega)
            have HL2 := hide (show sL.length ≤ 1000 by omega)
            have HRK := hide (rd_drew hrk)
            have HRD := hide (rd_drew HRS.out)
            have HT0 := HT
            clear hrk
            have cS0 := HS.out.cell
            have fS0 := HS.out.frozen
            have lgf := HT.out.lt.2
            have lgs := HS.out.lt
            go_region_with (go_at_call 8; refine (less_any _ _ (ofR (j : Int) rs) sL wr.drew HRK.out HRD.out HL1.out HL2.out).mono ?_; rintro e w7 ⟨v7, rfl, h7, hb7⟩; obtain ⟨A7, c7, hv7, -, -⟩ := h7.form; subst hv7; have hb7 := below_drew hb7; have H7 := hide h7; clear h7; obtain ⟨AX, cX, cx7, fx7, -⟩ := (HT.out.below hb7).at_ hk4)
            skip
            all_goals
              have HT := hide (show Tel gm gf rs (fun i => if i < j + 1 then lessL (ofR (i : Int) rs) sL else ofR (i : Int) rs) _ from ((HT.out.below hb7).set_ hk4 H7.out).same (fun i hi => by by_cases e : i = j <;> by_cases e2 : i < j <;> by_cases e3 : i < j + 1 <;> simp [e, e2, e3] <;> omega))
              have HP := hide ((HP.out.below hb7 HP.out.lt).far hpf (p := ⟨gf, j, none⟩) (.slice A7 (lessL (ofR (j : Int) rs) sL).length c7))
              have HS := hide ((HS.out.below hb7 HS.out.lt).far hsf (p := ⟨gf, j, none⟩) (.slice A7 (lessL (ofR (j : Int) rs) sL).length c7))
              have HRS := hide (set_rd (HT0.out.below hb7) (j) (.slice A7 (lessL (ofR (j : Int) rs) sL).length c7) ((HRS.out.below hb7).mono hb7.size))
              have hb := below_set (hb.trans (hb7.mono hb.size)) hgf1 (i := j) (.slice A7 (lessL (ofR (j : Int) rs) sL).length c7)
              clear HRK HRD HL1 HL2 ck fk cS0 fS0 lgf lgs hlq cx7 fx7 H7 hb7 HT0
              go_wp2_with fail
              go_roundw
              case rel => exact ⟨j + 1, by omega, by go_num, HT, HP, HS, HRS, hb⟩
              case measure => simp [intOf] <;> omega
          · obtain rfl : j = 4 := by omega
            have d4 : decide (((4 : Nat) : Int) < 4) = false := by decide
            have HT2 := hide (show Tel gm gf rs (fun i => lessL (ofR (i : Int) rs) sL) wr from HT.out.same fun i hi => by simp [hi])
            clear HT
            have HT := HT2
            clear HT2
            have cP := HP.out.cell
            have cT := HT.out.lt
            cases pd
            · obtain ⟨⟨V0, hV0, hrV0⟩, _, _⟩ := HT.out
              have HV0 := hide hV0
              have HRV := hide hrV0
              clear hV0 hrV0
              have hll9 : rs.length ≤ 10000 := by have := HRN.out.len; omega
              go_wp2_with fail
              refine (put_any gm V0 rs sf sto vm wr HV0.out HRV.out HRN.out.nf hll9).mono ?_
              intro e w7 hm
              have hm9 := hm
              obtain ⟨V7, n7, rfl, -⟩ := hm9
              have HT7 := hide (HT.out.told hm)
              have HP7 := hide (told_blk hm HP.out hpm)
              have HS7 := hide (told_blk hm HS.out hsm)
              have HR7 := hide (told_rd HT.out hm HRS.out)
              have hb7 := told_bel hm hb hgm1
              clear hm HT HP HS HRS hb HV0 HRV cP cT
              have HT := HT7
              have HP := HP7
              have HS := HS7
              have HRS := HR7
              have hb := hb7
              clear HT7 HP7 HS7 HR7 hb7
              have HL := hide (show ofR vm (stepR (sf, sto) vm false rs) = orL (lessL (ofR vm rs) sL) sL by rw [HSL.out, step_of HRN.out.nf, if_pos ⟨rfl, rfl⟩])
              have HRN2 := hide (HRN.out.step (sf, sto) ⟨hvm0, hvm4⟩ false)
              change Hid (Tel gm gf (stepR (sf, sto) vm false rs) (fun i => lessL (ofR (i : Int) rs) sL) w7) at HT
              obtain ⟨vn, hvn⟩ : ∃ n : Nat, vm = (n : Int) := ⟨vm.toNat, by omega⟩
              subst hvn
              have hk4 : vn < 4 := by omega
              have HLQ := hide (show (lessL (ofR (vn : Int) rs) sL).length ≤ 600 by have h1 := lessL_len (ofR (vn : Int) rs) sL; have h2 := ofR_len (vn : Int) rs; have h3 := HRN.out.len; have : (ofR (vn : Int) rs).length * (sL.length + 1) ≤ 60 * 2 := Nat.mul_le_mul (by omega) (by omega); omega)
              obtain ⟨wr2, hwr2⟩ : ∃ W : World, W = w7 := ⟨_, rfl⟩
              rw [← hwr2] at HT HP HS HRS hb ⊢
              clear hwr2
              go_upto_region 20 with fail
              obtain ⟨AK, cK, ck, fk, hrk⟩ := HT.out.got (l := lessL (ofR (vn : Int) rs) sL) hk4 (rfl)
              have hlq : (lessL (ofR (vn : Int) rs) sL).length ≤ 600 := HLQ.out
              have HL1 := hide (show (lessL (ofR (vn : Int) rs) sL).length ≤ 500000 by omega)
              have HL2 := hide (show sL.length ≤ 500000 by omega)
              have HRK := hide (rd_drew hrk)
              have HRD := hide (rd_drew HRS.out)
              have HT0 := HT
              clear hrk
              have cS0 := HS.out.cell
              have fS0 := HS.out.frozen
              have lgf := HT.out.lt.2
              have lgs := HS.out.lt
              go_region_with (go_at_call 11; refine (or_any _ _ (lessL (ofR (vn : Int) rs) sL) sL wr2.drew HRK.out HRD.out HL1.out HL2.out).mono ?_; rintro e w7 ⟨v7, rfl, h7, hb7⟩; obtain ⟨A7, c7, hv7, -, -⟩ := h7.form; subst hv7; have hb7 := below_drew hb7; have H7 := hide h7; clear h7; obtain ⟨AX, cX, cx7, fx7, -⟩ := (HT.out.below hb7).at_ hk4)
              skip
              all_goals
                have HT := hide (show Tel gm gf (stepR (sf, sto) (vn : Int) false rs) (fun i => ofR (i : Int) (stepR (sf, sto) (vn : Int) false rs)) _ from ((HT.out.below hb7).set_ hk4 H7.out).same (fun i _ => put_q HRN.out.nf HSL.out i))
                have HP := hide ((HP.out.below hb7 HP.out.lt).far hpf (p := ⟨gf, vn, none⟩) (.slice A7 (orL (lessL (ofR (vn : Int) rs) sL) sL).length c7))
                have HS := hide ((HS.out.below hb7 HS.out.lt).far hsf (p := ⟨gf, vn, none⟩) (.slice A7 (orL (lessL (ofR (vn : Int) rs) sL) sL).length c7))
                have HRS := hide (set_rd (HT0.out.below hb7) (vn) (.slice A7 (orL (lessL (ofR (vn : Int) rs) sL) sL).length c7) ((HRS.out.below hb7).mono hb7.size))
                have hb := below_set (hb.trans (hb7.mono hb.size)) hgf1 (i := vn) (.slice A7 (orL (lessL (ofR (vn : Int) rs) sL) sL).length c7)
                clear HRK HRD HL1 HL2 ck fk cS0 fS0 lgf lgs hlq cx7 fx7 H7 hb7 HT0
                go_wp2_with fail
                go_roundw
                case rel => exact ⟨k + 1, stepR (sf, sto) (vn : Int) false rs, by omega, by go_num, HRN2, HT, hb⟩
                case measure => simp [intOf] <;> omega
            · obtain ⟨⟨V0, hV0, hrV0⟩, _, _⟩ := HT.out
              have HV0 := hide hV0
              have HRV := hide hrV0
              clear hV0 hrV0
              have hll9 : rs.length ≤ 10000 := by have := HRN.out.len; omega
              go_wp2_with fail
              refine (drop_any gm V0 rs sf sto wr HV0.out HRV.out HRN.out.nf hll9).mono ?_
              intro e w7 hm
              have hm9 := hm
              obtain ⟨V7, n7, rfl, -⟩ := hm9
              have HT7 := hide (HT.out.told hm)
              have HP7 := hide (told_blk hm HP.out hpm)
              have HS7 := hide (told_blk hm HS.out hsm)
              have HR7 := hide (told_rd HT.out hm HRS.out)
              have hb7 := told_bel hm hb hgm1
              clear hm HT HP HS HRS hb HV0 HRV cP cT
              have HT := HT7
              have HP := HP7
              have HS := HS7
              have HRS := HR7
              have hb := hb7
              clear HT7 HP7 HS7 HR7 hb7
              have HRN2 := hide (HRN.out.step (sf, sto) ⟨hvm0, hvm4⟩ true)
              have HT2 := hide (show Tel gm gf (stepR (sf, sto) vm true rs) (fun i => ofR (i : Int) (stepR (sf, sto) vm true rs)) w7 from HT.out.same fun i _ => by rw [HSL.out, step_of HRN.out.nf]; simp)
              clear HT
              have HT := HT2
              clear HT2
              go_wp2_with fail
              go_roundw
              case rel => exact ⟨k + 1, stepR (sf, sto) vm true rs, by omega, by go_num, HRN2, HT, hb⟩
              case measure => simp [intOf] <;> omega
      · have hkl : k = l.length := by omega
        subst hkl
        obtain ⟨AM, cM, HM, HRM⟩ : ∃ (A : Option Addr) (c : Nat), Hid (Blk wr gm 58 #[.slice A rs.length c]) ∧ Hid (RdL LRn wr wr.heap.size (.slice A rs.length c) rs) := by
          obtain ⟨⟨V, h1, h2⟩, _, _⟩ := HT.out
          obtain ⟨A, c, rfl, _⟩ := h2.form
          exact ⟨A, c, h1, h2⟩
        obtain ⟨A0, A1, A2, A3, c0, c1, c2, c3, hF, hU⟩ := HT.out.four
        have HF := hide hF
        have HU := hide hU
        clear hF hU HT
        have cF := (HF.out.alloc (.cells #[.slice none 0 0] 28)).cell
        obtain ⟨wb, hwb⟩ : ∃ W : World, W = wr := ⟨_, rfl⟩
        rw [← hwb] at HM HRM HF HU hb cF ⊢
        clear hwb
        go_upto_region 24 with fail
        obtain ⟨wa, hwa⟩ : ∃ W : World, W = wb.alloc (.cells #[.slice none 0 0] 28) := ⟨_, rfl⟩
        rw [← hwa] at cF ⊢
        obtain ⟨ga, hga⟩ : ∃ n, n = wb.heap.size := ⟨_, rfl⟩
        rw [← hga]
        have HA := hide (show Blk wa ga 28 #[.slice none 0 0] by rw [hwa, hga]; exact Blk.new _ _ _)
        have hba : Below wb.heap.size wb wa := by rw [hwa]; exact (Below.refl _ _).alloc (Nat.le_refl _) _
        have hgb : wb.heap.size ≤ ga := by omega
        clear hwa hga
        go_wp2_with fail
        clear cF
        go_loopw [11, 12, 13, 65] (fun c11 _ _ c65 wr => ∃ (i : Nat) (AV : Option Addr) (cV : Nat), i ≤ 4 ∧ c65 = .int .i64 (i : Int) ∧ c11 = .int .i64 (cntR rs i : Nat) ∧ Hid (Blk wr ga 28 #[.slice AV (allR rs i).length cV]) ∧ Hid (RdL LSp wr wr.heap.size (.slice AV (allR rs i).length cV) (allR rs i)) ∧ Below wb.heap.size wb wr) (fun _ _ _ c65 _ => 4 - (intOf c65).toNat)
        case atStart => exact ⟨0, none, 0, by omega, rfl, rfl, HA, hide (RdL.nil _ _ _ _ (by omega)), hba⟩
        case round =>
          clear HA hba
          obtain ⟨i, AV, cV, hi, rfl, rfl, HA, HRA, hB⟩ := hrel
          by_cases hi4 : i < 4
          · have d4 : decide ((i : Int) < 4) = true := decide_eq_true (by omega)
            obtain ⟨AU, cU, hix, hru⟩ : ∃ (AU : Option Addr) (cU : Nat), (∀ W : World, (Instr.index 29 (.agg #[.slice A0 (ofR 0 rs).length c0, .slice A1 (ofR 1 rs).length c1, .slice A2 (ofR 2 rs).length c2, .slice A3 (ofR 3 rs).length c3]) (.int .i64 (i : Int))).run Tryd.prog W = .ok (.agg #[.slice AU (ofR (i : Int) rs).length cU]) W) ∧ RdL LSp wb wb.heap.size (.slice AU (ofR (i : Int) rs).length cU) (ofR (i : Int) rs) := by
              obtain ⟨r0, r1, r2, r3⟩ := HU.out
              match i, hi4 with
              | 0, _ => exact ⟨A0, c0, fun W => by rfl, r0⟩
              | 1, _ => exact ⟨A1, c1, fun W => by rfl, r1⟩
              | 2, _ => exact ⟨A2, c2, fun W => by rfl, r2⟩
              | 3, _ => exact ⟨A3, c3, fun W => by rfl, r3⟩
            have HRU := hide hru
            clear hru
            go_upto_region 27 with fail
            clear hix
            obtain ⟨wc, hwc⟩ : ∃ W : World, W = wr.alloc (.cells #[.slice AU (ofR (i : Int) rs).length cU] 28) := ⟨_, rfl⟩
            rw [← hwc]
            obtain ⟨gx, hgx⟩ : ∃ n, n = wr.heap.size := ⟨_, rfl⟩
            rw [← hgx]
            have HX := hide (show Blk wc gx 28 #[.slice AU (ofR (i : Int) rs).length cU] by rw [hwc, hgx]; exact Blk.new _ _ _)
            have hBc : Below wb.heap.size wb wc := by rw [hwc]; exact hB.alloc hB.size _
            have HAc := hide (show Blk wc ga 28 #[.slice AV (allR rs i).length cV] by rw [hwc]; exact HA.out.alloc _)
            have HRAc := hide (show RdL LSp wc wc.heap.size (.slice AV (allR rs i).length cV) (allR rs i) by rw [hwc]; exact (HRA.out.below ((Below.refl _ _).alloc (Nat.le_refl _) _)).mono (by simp))
            have HUc := hide ((HRU.out.below hBc).mono hBc.size)
            have HMc := hide (HM.out.below hBc HM.out.lt)
            have HRMc := hide ((HRM.out.below hBc).mono hBc.size)
            have HM2 := hide (show Blk wc.drew gm 58 #[.slice AM rs.length cM] from HMc.out)
            have HRM2 := hide (rd_drew HRMc.out)
            have hgx1 : wb.heap.size ≤ gx := by have := hB.size; omega
            have hgax : ga ≠ gx := by have := HA.out.lt; omega
            clear hwc hgx HA HRA hB
            have cX := HX.out.cell
            have h30' : l.length ≤ 30 := by omega
            have lgx := HX.out.lt
            have hwi : IntKind.u8.wrap (i : Int) = (i : Int) := by match i, hi4 with | 0, _ => rfl | 1, _ => rfl | 2, _ => rfl | 3, _ => rfl
            go_cut [75] (fun p75 wx => p75 = .bool false ∧ Hid (Blk wx gx 28 #[.slice AU (ofR (i : Int) rs).length cU]) ∧ Hid (Blk wx ga 28 #[.slice AV (allR rs i).length cV]) ∧ Hid (RdL LSp wx wx.heap.size (.slice AV (allR rs i).length cV) (allR rs i)) ∧ Below wb.heap.size wb wx)
            case first =>
              go_region_with (first | (go_at_call 12; refine (mof_is HRN.out h30' gm AM cM (i : Int) wc.drew HM2.out HRM2.out).mono ?_; rintro e w7 ⟨v7, rfl, h7, hb7⟩; obtain ⟨A7, c7, hv7, -, -⟩ := h7.form; subst hv7; have hb7 := below_drew hb7; have H7 := hide h7; clear h7; have HU7 := hide ((HUc.out.below hb7).mono hb7.size); have HX7 := hide (HX.out.below hb7 HX.out.lt); have cx7 := HX7.out.cell) | (go_at_call 13; refine (same_is _ _ (ofR (i : Int) rs) w7 H7.out HU7.out).mono ?_; rintro e w8 ⟨rfl, hb8⟩))
              all_goals (go_wp2_with fail; go_meet)
              all_goals (have hb9 := hb7.trans (hb8.mono hb7.size); exact ⟨rfl, hide (HX.out.below hb9 HX.out.lt), hide (HAc.out.below hb9 HAc.out.lt), hide ((HRAc.out.below hb9).mono hb9.size), hBc.trans (hb9.mono hBc.size)⟩)
            case rest =>
              obtain ⟨rfl, HX9, HA9, HRA9, hB9⟩ := hcut
              clear HX HAc HRAc HUc HMc HRMc HM2 HRM2 cX lgx hBc
              have cX := HX9.out.cell
              have cA := HA9.out.cell
              have fA := HA9.out.frozen
              have HUd := hide ((HRU.out.below hB9).mono hB9.size)
              have hl1 : (allR rs i).length ≤ 500000 := by
                have h1 := allR_len (l := rs) i
                have h2 : i * rs.length ≤ 4 * 60 := Nat.mul_le_mul (by omega) (by have := HRN.out.len; omega)
                omega
              have hl2 : (ofR (i : Int) rs).length ≤ 500000 := by have := ofR_len (i : Int) rs; have := HRN.out.len; omega
              have HL1 := hide hl1
              have HL2 := hide hl2
              clear hl1 hl2
              go_wp2_with fail
              refine (or_any _ _ (allR rs i) (ofR (i : Int) rs) _ HRA9.out HUd.out HL1.out HL2.out).mono ?_
              rintro e w5 ⟨v5, rfl, h5, hb5⟩
              obtain ⟨A5, c5, hv5, _, _⟩ := h5.form
              subst hv5
              have hB5 := hB9.trans (hb5.mono hB9.size)
              have HX5 := hide (HX9.out.below hb5 HX9.out.lt)
              have HA5 := hide (HA9.out.below hb5 HA9.out.lt)
              have H5 := hide h5
              have HR5 := hide (rd_setcell (V' := .slice A5 (orL (allR rs i) (ofR (i : Int) rs)).length c5) h5 HA5.out (fun z e => by cases e))
              clear h5 hb5 HX9 HA9 HRA9 HUd cX cA fA hB9 H5
              have cX := HX5.out.cell
              have cA := HA5.out.cell
              have fA := HA5.out.frozen
              have HX6 := hide (HX5.out.far (p := ⟨ga, 0, none⟩) (fun e => hgax e.symm) (.slice A5 (orL (allR rs i) (ofR (i : Int) rs)).length c5))
              have HA6 := hide (show Blk (w5.setCell ⟨ga, 0, none⟩ (.slice A5 (orL (allR rs i) (ofR (i : Int) rs)).length c5)) ga 28 #[.slice A5 (orL (allR rs i) (ofR (i : Int) rs)).length c5] from by simpa using HA5.out.set_ 0 (.slice A5 (orL (allR rs i) (ofR (i : Int) rs)).length c5))
              have hB6 := below_set hB5 hgb (i := 0) (.slice A5 (orL (allR rs i) (ofR (i : Int) rs)).length c5)
              have HR6 := hide (show RdL LSp (w5.setCell ⟨ga, 0, none⟩ (.slice A5 (orL (allR rs i) (ofR (i : Int) rs)).length c5)) (w5.setCell ⟨ga, 0, none⟩ (.slice A5 (orL (allR rs i) (ofR (i : Int) rs)).length c5)).heap.size _ (orL (allR rs i) (ofR (i : Int) rs)) from HR5.out.mono (KeepsWalks.setCell w5 _ _).size)
              go_upto_region 30 with fail
              obtain ⟨wg, hwg⟩ : ∃ W : World, W = w5.setCell ⟨ga, 0, none⟩ (.slice A5 (orL (allR rs i) (ofR (i : Int) rs)).length c5) := ⟨_, rfl⟩
              rw [← hwg] at HX6 HA6 hB6 HR6 ⊢
              clear hwg HX5 HA5 HR5 hB5 cX cA fA
              have cX := HX6.out.cell
              have HUg := hide ((HRU.out.below hB6).mono hB6.size)
              have hlu : (ofR (i : Int) rs).length ≤ 1000000 := by have := HL2.out; omega
              go_wp2_with fail
              refine (spans_any _ (ofR (i : Int) rs) _ HUg.out hlu).mono ?_
              rintro e w8 ⟨v8, rfl, O8, hb8⟩
              obtain ⟨A8, c8, hv8, _, _⟩ := O8.rd.form
              subst hv8
              have hB8 := hB6.trans (hb8.mono hB6.size)
              have HA8 := hide (HA6.out.below hb8 HA6.out.lt)
              have HR8 := hide ((HR6.out.below hb8).mono hb8.size)
              have hcn : (cntR rs i : Int) + ((ofR (i : Int) rs).length : Int) = ((cntR rs (i + 1) : Nat) : Int) := by show _ = ((cntR rs i + (ofR (i : Int) rs).length : Nat) : Int); omega
              have hcb : cntR rs i ≤ 1000 := by
                have h1 := cntR_le (l := rs) i
                have h2 : i * rs.length ≤ 4 * 60 := Nat.mul_le_mul (by omega) (by have := HRN.out.len; omega)
                omega
              have hcb2 : ((cntR rs (i + 1) : Nat) : Int) ≤ 2000000 := by omega
              have hcb3 : (0 : Int) ≤ ((cntR rs (i + 1) : Nat) : Int) := by omega
              clear O8 hb8 HX6 HA6 HR6 hB6 HUg cX
              go_wp2_with fail
              go_roundw
              case rel => exact ⟨i + 1, A5, c5, by omega, by go_num, by first | rfl | rw [← hcn] | simp [cntR], HA8, HR8, hB8⟩
              case measure => simp [intOf] <;> omega
          · obtain rfl : i = 4 := by omega
            have d4 : decide (((4 : Nat) : Int) < 4) = false := by decide
            have hcn : cntR rs 4 = rs.length := cnt_eq HRN.out.val
            rw [hcn]
            clear hcn
            have HMc := hide (HM.out.below hB HM.out.lt)
            have HRMc := hide ((HRM.out.below hB).mono hB.size)
            have HM2 := hide (show Blk wr.drew gm 58 #[.slice AM rs.length cM] from HMc.out)
            have HRM2 := hide (rd_drew HRMc.out)
            have hrl : rs.length ≤ 60 := by have := HRN.out.len; omega
            have cA := HA.out.cell
            have h30' : l.length ≤ 30 := by omega
            have lga := HA.out.lt
            go_upto_region 32 with fail
            go_region_with (first | (go_at_call 15; refine (known_is HRN.out h30' gm AM cM wr.drew HM2.out HRM2.out).mono ?_; rintro e w7 ⟨v7, rfl, h7, hb7⟩; obtain ⟨A7, c7, hv7, -, -⟩ := h7.form; subst hv7; have hb7 := below_drew hb7; have H7 := hide h7; clear h7; have HR7 := hide ((HRA.out.below hb7).mono hb7.size); have HA7 := hide (HA.out.below hb7 HA.out.lt); have ca7 := HA7.out.cell; have HM7 := hide (HMc.out.below hb7 HMc.out.lt)) | (go_at_call 13; refine (same_is _ _ (allR rs 4) w7 H7.out HR7.out).mono ?_; rintro e w8 ⟨rfl, hb8⟩; have HM8 := hide (HM7.out.below hb8 HM7.out.lt)) | (go_at_call 16; refine (maplen_any gm AM rs.length cM w8 HM8.out).mono ?_; rintro e w9 ⟨rfl, rfl⟩) | (go_at_call 5; refine (alive_any _).mono ?_; rintro e w9 ⟨rfl, hb9⟩))
            all_goals
              go_wp2_with fail
              go_ret
              exact ⟨rfl, hb.trans ((hB.trans ((hb7.trans ((hb8.trans (hb9.mono hb8.size)).mono hb7.size)).mono hB.size)).mono hb.size)⟩

end Go.Proofs.YtfcbmajogmojbaaDoor.topTells
