/-
  Whatever happens to any fetch, it tells what the reference says, and where it stands, act by act: for every fetch and list of acts.
-/
import Derived.Test.YtdbocpgkedgpcaaFetU
import Derived.Test.YtdbocpgkedgpcaaFetP
import Derived.Test.YtdbocpgkedgpcaaFetS
import Derived.Test.YtdbocpgkedgpcaaFetT
import Derived.Test.YtdbocpgkedgpcaaFetQ
import Derived.Test.YtdbocpgkedgpcaaOpenP
import Derived.Test.YtdbocpgkedgpcaaLift
import Derived.Deep.DeepCutAuto
import Derived.Deep.RegionWith
import Derived.Test.YtdbocpgkedgpcaaRowP
namespace Go.Proofs.Ytdbocpgkedgpcaa.fetchPlays
open Go.ChangeShapes Go.WideShapes Go.ChangeAt Go.RowKit Go.Deep
set_option linter.unusedVariables false
set_option linter.unusedSimpArgs false

set_option maxRecDepth 100000 in
set_option maxHeartbeats 16000000 in
theorem walk (ob : ByteArray) (fa fb : Int) (ft : ByteArray) (fk : Bool) (nt : ByteArray) (nk : Bool) (lv : Value) (ls : List ActL) (hob : ob.size ≤ 9223372036854775807) (hft : ft.size ≤ 9223372036854775807) (hnt : nt.size ≤ 9223372036854775807) (w : World) (hl : RdActs w w.heap.size lv ls) : Calls Try.prog 4 #[.agg #[.string ob, .int .i64 fa, .int .i64 fb, .string ft, .bool fk, .string nt, .bool nk], lv] w (BoolOk true w) := by
  obtain ⟨hl0, hz, A3, c3, rfl, hc⟩ := hl
  have HC := hide hc
  have HZ := hide hz
  clear hc hz
  go_enter Try.func4, Try.ntmps4
  go_wp2_with fail
  obtain ⟨w1, hw1⟩ : ∃ w1 : World, w1 = (w).alloc (.cells #[.string ob, .int .i64 fa, .int .i64 fb, .string ft, .bool fk, .string nt, .bool nk] 27) := ⟨_, rfl⟩
  rw [← hw1]
  have hB1 : Below w.heap.size w w1 := by rw [hw1]; exact ((Below.refl _ _).alloc (Nat.le_refl _) _)
  have T : Blk w1 (w.heap.size) 27 #[.string ob, .int .i64 fa, .int .i64 fb, .string ft, .bool fk, .string nt, .bool nk] := by rw [hw1]; exact (Blk.new _ _ _)
  clear hw1
  have cT := T.cell
  refine (wakes38 _).mono ?_
  rintro e w2 ⟨rfl, hb2⟩
  have hB2 := hB1.trans (hb2.mono hB1.size)
  replace T := T.below hb2 T.lt
  clear cT hb2
  have cT := T.cell
  go_wp2_with fail
  refine (lsmall ob fa fb ft fk nt nk _).mono ?_
  rintro e w3 ⟨b, rfl, hb3⟩
  have hB3 := hB2.trans (hb3.mono hB2.size)
  replace T := T.below hb3 T.lt
  clear cT hb3
  have cT := T.cell
  cases b
  · go_wp2
    go_ret
    exact ⟨rfl, hB3⟩
  · by_cases n60 : 40 < (ls.length : Int)
    · have d60 : decide (40 < (ls.length : Int)) = true := by simpa using n60
      go_wp2
      go_ret
      exact ⟨rfl, hB3⟩
    · have d60 : decide (40 < (ls.length : Int)) = false := by simpa using n60
      go_wp2_with fail
      clear cT
      have TS := hide T
      have hBs := hide hB3
      clear T
      go_loopw [42] (fun i wr => ∃ k : Nat, k ≤ ls.length ∧ i = .int .i64 k ∧ Blk wr w.heap.size 27 #[.string ob, .int .i64 fa, .int .i64 fb, .string ft, .bool fk, .string nt, .bool nk] ∧ Below w.heap.size w wr) (fun i _ => ls.length - (intOf i).toNat)
      case atStart => exact ⟨0, Nat.zero_le _, rfl, TS.out, hBs.out⟩
      case round =>
        obtain ⟨k, hk, rfl, T, hB⟩ := hrel
        by_cases hlt : k < ls.length
        · obtain ⟨bb, off, rfl, hbl, c1⟩ := HC.out k hlt
          have hok := HZ.out ls[k] (List.getElem_mem hlt)
          have d : ∀ j, j < 18 → wr.cell? ⟨bb, off + k * 18 + j, none⟩ = ls[k].cells[j]? := fun j hj => by rw [hB.cell hbl]; exact c1 j hj
          clear c1
          obtain ⟨a, ha⟩ : ∃ a, ls[k] = a := ⟨_, rfl⟩
          rw [ha] at d hok
          clear ha
          obtain ⟨kd, st, mt, mk, md, ln, hv, fr, wh, er, kv, tn, kp, sa, sb, ag, n, wl, ks⟩ := a
          obtain ⟨hmt, htn, hr, hkd, hnn⟩ := hok
          simp only at hmt htn hr hkd hnn
          obtain ⟨A, c, rfl, hkc0, hc0⟩ := hr.form
          have hrg : wr.rangeAt bb (off + k * 18) [.int .u8 kd, .int .i64 st, .string mt, .bool mk, .int .i64 md, .int .i64 ln, .int .i64 hv, .int .i64 fr, .int .i64 wh, .int .i64 er, .slice A ks.length c, .string tn, .bool kp, .int .i64 sa, .int .i64 sb, .int .i64 ag, .int .i64 n, .bool wl] := fun j v hv => by
            have hj : j < 18 := (List.getElem?_eq_some_iff.1 hv).1
            rw [d j hj]; exact hv
          clear d
          have hbw : bb < wr.heap.size := Nat.lt_of_lt_of_le hbl hB.size
          have HRG := hide hrg
          clear hrg
          have HI1 := hide (show (Try.prog.info? 40).map (·.size) = some ([.int .u8 kd, .int .i64 st, .string mt, .bool mk, .int .i64 md, .int .i64 ln, .int .i64 hv, .int .i64 fr, .int .i64 wh, .int .i64 er, .slice A ks.length c, .string tn, .bool kp, .int .i64 sa, .int .i64 sb, .int .i64 ag, .int .i64 n, .bool wl] : List Value).length by kernel_rfl)
          have HI2 := hide (show (Try.prog.info? 40).map (·.size) = some (#[.int .u8 kd, .int .i64 st, .string mt, .bool mk, .int .i64 md, .int .i64 ln, .int .i64 hv, .int .i64 fr, .int .i64 wh, .int .i64 er, .slice A ks.length c, .string tn, .bool kp, .int .i64 sa, .int .i64 sb, .int .i64 ag, .int .i64 n, .bool wl] : Array Value).size by kernel_rfl)
          have HI3 := hide (show (#[.int .u8 kd, .int .i64 st, .string mt, .bool mk, .int .i64 md, .int .i64 ln, .int .i64 hv, .int .i64 fr, .int .i64 wh, .int .i64 er, .slice A ks.length c, .string tn, .bool kp, .int .i64 sa, .int .i64 sb, .int .i64 ag, .int .i64 n, .bool wl] : Array Value).all (·.oneCell') = true by simp [Value.oneCell'])
          go_wp2_with (first | (refine wpList_load_mid rfl 40 (.tmp 44) rfl bb (off + k * 18) rfl [.int .u8 kd, .int .i64 st, .string mt, .bool mk, .int .i64 md, .int .i64 ln, .int .i64 hv, .int .i64 fr, .int .i64 wh, .int .i64 er, .slice A ks.length c, .string tn, .bool kp, .int .i64 sa, .int .i64 sb, .int .i64 ag, .int .i64 n, .bool wl] _ HRG.out Try.underlying40 rfl HI1.out ?_) | (refine wpList_store_box rfl 40 (.tmp 6) (.tmp 45) rfl wr.heap.size 40 #[.int .u8 0, .int .i64 0, .string ⟨#[]⟩, .bool false, .int .i64 0, .int .i64 0, .int .i64 0, .int .i64 0, .int .i64 0, .int .i64 0, .slice none 0 0, .string ⟨#[]⟩, .bool false, .int .i64 0, .int .i64 0, .int .i64 0, .int .i64 0, .bool false] #[.int .u8 kd, .int .i64 st, .string mt, .bool mk, .int .i64 md, .int .i64 ln, .int .i64 hv, .int .i64 fr, .int .i64 wh, .int .i64 er, .slice A ks.length c, .string tn, .bool kp, .int .i64 sa, .int .i64 sb, .int .i64 ag, .int .i64 n, .bool wl] rfl rfl (Blk.new _ _ _) rfl HI2.out HI3.out ?_))
          intro v1 K hbt
          have T1 : Blk v1 w.heap.size 27 #[.string ob, .int .i64 fa, .int .i64 fb, .string ft, .bool fk, .string nt, .bool nk] := hbt.far _ _ _ (by have := T.lt; omega) (T.alloc _)
          have hB1 : Below w.heap.size w v1 := hbt.bel _ _ (hB.alloc hB.size _) hB.size
          clear hbt
          have cK := K.cell
          have R1 := hide ((hr.below hB1).mono hB1.size)
          go_wp2_with fail
          refine (lSmall st mt mk md ln hv fr wh er _ tn kp sa sb ag ks _ R1.out).mono ?_
          rintro e w5 ⟨b, rfl, hb5⟩
          have hB5 := hB1.trans (hb5.mono hB1.size)
          have T5 := T1.below hb5 T1.lt
          cases b
          · go_wp2
            go_ret
            exact ⟨rfl, hB5⟩
          · go_wp2
            go_roundw
            case rel => exact ⟨k + 1, by omega, by go_num, T5, hB5⟩
            case measure => simp [intOf]; omega
        · have cT := T.cell
          cases hfr : fRight ob fa fb (ft, fk) (nt, nk)
          · go_wp2_with fail
            refine (begin_no ob fa fb ft fk nt nk _ hob hft hnt hfr).mono ?_
            rintro e w6 ⟨rfl, hb6⟩
            have hB6 := hB.trans (hb6.mono hB.size)
            have T6 := T.below hb6 T.lt
            clear cT T
            have cT6 := T6.cell
            go_wp2_with fail
            refine (rbegin_no ob fa fb ft fk nt nk _ hob hft hnt hfr).mono ?_
            rintro e w7 ⟨rfl, hb7⟩
            have hB7 := hB6.trans (hb7.mono hB6.size)
            go_wp2
            go_ret
            exact ⟨rfl, hB7.alloc hB7.size _⟩
          · go_wp2_with fail
            refine (begin_yes ob fa fb ft fk nt nk _ hob hft hnt hfr).mono ?_
            rintro e w6 ⟨g, rfl, hg, X, hb6⟩
            have hB6 := hB.trans (hb6.mono hB.size)
            have T6 := T.below hb6 T.lt
            have hgw : w.heap.size ≤ g := by have := hB.size; omega
            clear cT T
            have cT6 := T6.cell
            go_wp2_with fail
            refine (rbegin_yes ob fa fb ft fk nt nk _ hob hft hnt hfr).mono ?_
            rintro e w7 ⟨rfl, hb7⟩
            have hB7 := hB6.trans (hb7.mono hB6.size)
            replace X := X.below hb7 X.lt
            go_upto_region 13 with fail
            obtain ⟨v7, hv7⟩ : ∃ v : World, v = w7.alloc (.cells #[.string ob, .int .i64 fa, .int .i64 fb, .string ft, .bool fk, .string nt, .bool nk, .int .i64 0, .int .i64 0, .int .i64 0] 46) := ⟨_, rfl⟩
            rw [← hv7]
            obtain ⟨yb, hyb⟩ : ∃ n, n = w7.heap.size := ⟨_, rfl⟩
            rw [← hyb]
            have Y0 := hide (show Blk v7 yb 46 #[.string ob, .int .i64 fa, .int .i64 fb, .string ft, .bool fk, .string nt, .bool nk, .int .i64 0, .int .i64 0, .int .i64 0] by rw [hv7, hyb]; exact Blk.new _ _ _)
            have X0 := hide (show Blk v7 g 74 #[.string ob, .int .i64 fa, .int .i64 fb, .string ft, .bool fk, .string nt, .bool nk, .bool false, .bool false, .int .i64 0, .int .i64 0] by rw [hv7]; exact X.alloc _)
            have hB0 := hide (show Below w.heap.size w v7 by rw [hv7]; exact hB7.alloc hB7.size _)
            have hyw : w.heap.size ≤ yb := by rw [hyb]; exact hB7.size
            have hgy : g < yb := by rw [hyb]; exact X.lt
            clear hv7 hyb X cT6 T6 hB7 hb7 hb6 hg
            go_wp2_with fail
            go_loopw [77] (fun i wr => ∃ (k : Nat) (h o : Bool) (p q : Int), k ≤ ls.length ∧ i = .int .i64 k ∧ (0 ≤ p ∧ p ≤ q ∧ q ≤ 4611686018427387904) ∧ Blk wr g 74 #[.string ob, .int .i64 fa, .int .i64 fb, .string ft, .bool fk, .string nt, .bool nk, .bool h, .bool o, .int .i64 p, .int .i64 q] ∧ Blk wr yb 46 #[.string ob, .int .i64 fa, .int .i64 fb, .string ft, .bool fk, .string nt, .bool nk, .int .i64 (sV h o), .int .i64 p, .int .i64 q] ∧ Below w.heap.size w wr) (fun i _ => ls.length - (intOf i).toNat)
            case atStart => exact ⟨0, false, false, 0, 0, Nat.zero_le _, rfl, ⟨by omega, by omega, by omega⟩, X0.out, Y0.out, hB0.out⟩
            case round =>
              obtain ⟨k, h, o, p, q, hk, rfl, hpq, X, Y, hB⟩ := hrel
              clear X0 Y0 hB0
              by_cases hlt : k < ls.length
              · obtain ⟨bb, off, rfl, hbl, c1⟩ := HC.out k hlt
                have hok := HZ.out ls[k] (List.getElem_mem hlt)
                have d : ∀ j, j < 18 → wr.cell? ⟨bb, off + k * 18 + j, none⟩ = ls[k].cells[j]? := fun j hj => by rw [hB.cell hbl]; exact c1 j hj
                clear c1
                obtain ⟨a, ha⟩ : ∃ a, ls[k] = a := ⟨_, rfl⟩
                rw [ha] at d hok
                clear ha
                obtain ⟨kd, st, mt, mk, md, ln, hv, fr, wh, er, kv, tn, kp, sa, sb, ag, n, wl, ks⟩ := a
                obtain ⟨hmt, htn, hr, hkd, hnn⟩ := hok
                simp only at hmt htn hr hkd hnn
                obtain ⟨A, c, rfl, hkc0, hc0⟩ := hr.form
                have hrg : wr.rangeAt bb (off + k * 18) [.int .u8 kd, .int .i64 st, .string mt, .bool mk, .int .i64 md, .int .i64 ln, .int .i64 hv, .int .i64 fr, .int .i64 wh, .int .i64 er, .slice A ks.length c, .string tn, .bool kp, .int .i64 sa, .int .i64 sb, .int .i64 ag, .int .i64 n, .bool wl] := fun j v hv => by
                  have hj : j < 18 := (List.getElem?_eq_some_iff.1 hv).1
                  rw [d j hj]; exact hv
                clear d
                have hbw : bb < wr.heap.size := Nat.lt_of_lt_of_le hbl hB.size
                have HRG := hide hrg
                clear hrg
                have HI1 := hide (show (Try.prog.info? 40).map (·.size) = some ([.int .u8 kd, .int .i64 st, .string mt, .bool mk, .int .i64 md, .int .i64 ln, .int .i64 hv, .int .i64 fr, .int .i64 wh, .int .i64 er, .slice A ks.length c, .string tn, .bool kp, .int .i64 sa, .int .i64 sb, .int .i64 ag, .int .i64 n, .bool wl] : List Value).length by kernel_rfl)
                have HI2 := hide (show (Try.prog.info? 40).map (·.size) = some (#[.int .u8 kd, .int .i64 st, .string mt, .bool mk, .int .i64 md, .int .i64 ln, .int .i64 hv, .int .i64 fr, .int .i64 wh, .int .i64 er, .slice A ks.length c, .string tn, .bool kp, .int .i64 sa, .int .i64 sb, .int .i64 ag, .int .i64 n, .bool wl] : Array Value).size by kernel_rfl)
                have HI3 := hide (show (#[.int .u8 kd, .int .i64 st, .string mt, .bool mk, .int .i64 md, .int .i64 ln, .int .i64 hv, .int .i64 fr, .int .i64 wh, .int .i64 er, .slice A ks.length c, .string tn, .bool kp, .int .i64 sa, .int .i64 sb, .int .i64 ag, .int .i64 n, .bool wl] : Array Value).all (·.oneCell') = true by simp [Value.oneCell'])
                go_wp2_with (first | (refine wpList_load_mid rfl 40 (.tmp 79) rfl bb (off + k * 18) rfl [.int .u8 kd, .int .i64 st, .string mt, .bool mk, .int .i64 md, .int .i64 ln, .int .i64 hv, .int .i64 fr, .int .i64 wh, .int .i64 er, .slice A ks.length c, .string tn, .bool kp, .int .i64 sa, .int .i64 sb, .int .i64 ag, .int .i64 n, .bool wl] _ HRG.out Try.underlying40 rfl HI1.out ?_) | (refine wpList_store_box rfl 40 (.tmp 12) (.tmp 80) rfl wr.heap.size 40 #[.int .u8 0, .int .i64 0, .string ⟨#[]⟩, .bool false, .int .i64 0, .int .i64 0, .int .i64 0, .int .i64 0, .int .i64 0, .int .i64 0, .slice none 0 0, .string ⟨#[]⟩, .bool false, .int .i64 0, .int .i64 0, .int .i64 0, .int .i64 0, .bool false] #[.int .u8 kd, .int .i64 st, .string mt, .bool mk, .int .i64 md, .int .i64 ln, .int .i64 hv, .int .i64 fr, .int .i64 wh, .int .i64 er, .slice A ks.length c, .string tn, .bool kp, .int .i64 sa, .int .i64 sb, .int .i64 ag, .int .i64 n, .bool wl] rfl rfl (Blk.new _ _ _) rfl HI2.out HI3.out ?_))
                intro v1 K hbt
                have X1 := hbt.far _ _ _ (by have := X.lt; omega) (X.alloc _)
                have Y1 := hbt.far _ _ _ (by have := Y.lt; omega) (Y.alloc _)
                have hB1 : Below w.heap.size w v1 := hbt.bel _ _ (hB.alloc hB.size _) hB.size
                have hgk : g < wr.heap.size := X.lt
                have hyk : yb < wr.heap.size := Y.lt
                have hsz : w.heap.size ≤ wr.heap.size := hB.size
                clear hbt X Y HI1 HI2 HI3 HRG
                have cK := K.cell
                have cY1 := Y1.cell
                have hr1 := hr
                have R1 := hide ((hr.below hB1).mono hB1.size)
                go_upto_block 4 with fail
                go_cut [83] (fun r wx => ∃ (h' o' : Bool) (p' q' : Int), (0 ≤ p' ∧ p' ≤ q' ∧ q' ≤ 4611686018427387904) ∧ Blk wx g 74 #[.string ob, .int .i64 fa, .int .i64 fb, .string ft, .bool fk, .string nt, .bool nk, .bool h', .bool o', .int .i64 p', .int .i64 q'] ∧ Blk wx yb 46 #[.string ob, .int .i64 fa, .int .i64 fb, .string ft, .bool fk, .string nt, .bool nk, .int .i64 (sV h' o'), .int .i64 p', .int .i64 q'] ∧ Below w.heap.size w wx)
                case first =>
                  have lK0 := K.lt
                  obtain ⟨X, Y, hB, cY⟩ := (⟨X1, Y1, hB1, cY1⟩ : _ ∧ _ ∧ _ ∧ _)
                  clear X1 Y1 hB1 cY1 hr1
                  by_cases m0 : kd % 3 = 0
                  · have q0 : (kd % 3 == 0) = true := by simpa using m0
                    clear m0
                    obtain ⟨h', o', p', q', a, b, hpq', SP, SR⟩ := reply_sim ob fa fb ft fk nt nk st mt mk md ln hv fr wh er (.slice A ks.length c) tn kp sa sb ag ks h o p q hpq hob hft hnt hmt htn
                    have S1 := hide SP
                    have S2 := hide SR
                    clear SP SR
                    go_wp2_with fail
                    refine (S1.out g _ X R1.out).mono ?_
                    rintro e w5 ⟨rfl, Xn, hbn⟩
                    have zn := hbn.size
                    replace hB := hbn.bel _ _ hB hgw
                    replace Y := hbn.far _ _ _ (by omega) Y
                    replace K := hbn.far _ _ _ (by omega) K
                    clear X hbn
                    have X := Xn
                    clear Xn
                    clear cK cY
                    have R5 := hide ((hr.below hB).mono hB.size)
                    have cK := K.cell
                    have cY := Y.cell
                    go_wp2_with fail
                    refine (S2.out _ R5.out).mono ?_
                    rintro e w6 ⟨rfl, hbc⟩
                    replace hB := hB.trans (hbc.mono hB.size)
                    replace X := X.below hbc X.lt
                    replace Y := Y.below hbc Y.lt
                    replace K := K.below hbc K.lt
                    clear hbc
                    clear cK cY
                    have lK := K.lt
                    have lY := Y.lt
                    have lX := X.lt
                    go_upto_region 27 with fail
                    obtain ⟨v6, hv6⟩ : ∃ v : World, v = w6.alloc (.cells #[.string ob, .int .i64 fa, .int .i64 fb, .string ft, .bool fk, .string nt, .bool nk, .int .i64 (sV h' o'), .int .i64 p', .int .i64 q'] 46) := ⟨_, rfl⟩
                    rw [← hv6]
                    replace X := X.alloc (.cells #[.string ob, .int .i64 fa, .int .i64 fb, .string ft, .bool fk, .string nt, .bool nk, .int .i64 (sV h' o'), .int .i64 p', .int .i64 q'] 46)
                    rw [← hv6] at X
                    replace Y := Y.alloc (.cells #[.string ob, .int .i64 fa, .int .i64 fb, .string ft, .bool fk, .string nt, .bool nk, .int .i64 (sV h' o'), .int .i64 p', .int .i64 q'] 46)
                    rw [← hv6] at Y
                    replace K := K.alloc (.cells #[.string ob, .int .i64 fa, .int .i64 fb, .string ft, .bool fk, .string nt, .bool nk, .int .i64 (sV h' o'), .int .i64 p', .int .i64 q'] 46)
                    rw [← hv6] at K
                    have V : Blk v6 w6.heap.size 46 #[.string ob, .int .i64 fa, .int .i64 fb, .string ft, .bool fk, .string nt, .bool nk, .int .i64 (sV h' o'), .int .i64 p', .int .i64 q'] := by rw [hv6]; exact Blk.new _ _ _
                    replace hB := hB.alloc hB.size (.cells #[.string ob, .int .i64 fa, .int .i64 fb, .string ft, .bool fk, .string nt, .bool nk, .int .i64 (sV h' o'), .int .i64 p', .int .i64 q'] 46)
                    rw [← hv6] at hB
                    have zV : v6.heap.size = w6.heap.size + 1 := by rw [hv6]; simp
                    clear hv6
                    have cV := V.cell
                    have HI4 := hide (show (Try.prog.info? 46).map (·.size) = some (#[.string ob, .int .i64 fa, .int .i64 fb, .string ft, .bool fk, .string nt, .bool nk, .int .i64 (sV h' o'), .int .i64 p', .int .i64 q'] : Array Value).size by kernel_rfl)
                    have HI5 := hide (show (#[.string ob, .int .i64 fa, .int .i64 fb, .string ft, .bool fk, .string nt, .bool nk, .int .i64 (sV h' o'), .int .i64 p', .int .i64 q'] : Array Value).all (·.oneCell') = true by simp [Value.oneCell'])
                    go_wp2_with (first | (refine wpList_store_box rfl 46 (.tmp 9) (.tmp 116) rfl yb 46 _ #[.string ob, .int .i64 fa, .int .i64 fb, .string ft, .bool fk, .string nt, .bool nk, .int .i64 (sV h' o'), .int .i64 p', .int .i64 q'] rfl rfl Y rfl HI4.out HI5.out ?_) | fail)
                    intro v7 Yn hbn
                    replace hB := hbn.bel _ _ hB hyw
                    replace X := hbn.far _ _ _ (by omega) X
                    clear Y hbn HI4 HI5
                    have Y := Yn
                    clear Yn
                    have e_a : (a != a) = false := by simp
                    have e_b : (b != b) = false := by simp
                    go_wp2_with fail
                    go_meet
                    exact ⟨h', o', p', q', hpq', X, Y, hB⟩
                  · have q0 : (kd % 3 == 0) = false := by simpa using m0
                    clear m0
                    by_cases m1 : kd % 3 = 1
                    · have q1 : (kd % 3 == 1) = true := by simpa using m1
                      clear m1
                      obtain ⟨h', o', p', q', a, b, c', hpq', SP, SR⟩ := data_sim ob fa fb ft fk nt nk n h o p q hpq
                      have S1 := hide SP
                      have S2 := hide SR
                      clear SP SR
                      go_wp2_with fail
                      refine (S1.out g _ X).mono ?_
                      rintro e w5 ⟨rfl, Xn, hbn⟩
                      have zn := hbn.size
                      replace hB := hbn.bel _ _ hB hgw
                      replace Y := hbn.far _ _ _ (by omega) Y
                      replace K := hbn.far _ _ _ (by omega) K
                      clear X hbn
                      have X := Xn
                      clear Xn
                      clear cK cY
                      have lK := K.lt
                      have lY := Y.lt
                      have lX := X.lt
                      go_upto_region 32 with fail
                      obtain ⟨v5, hv5⟩ : ∃ v : World, v = w5.alloc (.cells #[.int .i64 a, .int .i64 b] 23) := ⟨_, rfl⟩
                      rw [← hv5]
                      replace X := X.alloc (.cells #[.int .i64 a, .int .i64 b] 23)
                      rw [← hv5] at X
                      replace Y := Y.alloc (.cells #[.int .i64 a, .int .i64 b] 23)
                      rw [← hv5] at Y
                      replace K := K.alloc (.cells #[.int .i64 a, .int .i64 b] 23)
                      rw [← hv5] at K
                      have U : Blk v5 w5.heap.size 23 #[.int .i64 a, .int .i64 b] := by rw [hv5]; exact Blk.new _ _ _
                      replace hB := hB.alloc hB.size (.cells #[.int .i64 a, .int .i64 b] 23)
                      rw [← hv5] at hB
                      have zU : v5.heap.size = w5.heap.size + 1 := by rw [hv5]; simp
                      clear hv5
                      have cK := K.cell
                      have cY := Y.cell
                      go_wp2_with fail
                      refine (S2.out _).mono ?_
                      rintro e w6 ⟨rfl, hbc⟩
                      replace hB := hB.trans (hbc.mono hB.size)
                      replace X := X.below hbc X.lt
                      replace Y := Y.below hbc Y.lt
                      replace K := K.below hbc K.lt
                      replace U := U.below hbc U.lt
                      clear hbc
                      clear cK cY
                      have lU := U.lt
                      go_upto_region 33 with fail
                      obtain ⟨v6, hv6⟩ : ∃ v : World, v = w6.alloc (.cells #[.string ob, .int .i64 fa, .int .i64 fb, .string ft, .bool fk, .string nt, .bool nk, .int .i64 (sV h' o'), .int .i64 p', .int .i64 q'] 46) := ⟨_, rfl⟩
                      rw [← hv6]
                      replace X := X.alloc (.cells #[.string ob, .int .i64 fa, .int .i64 fb, .string ft, .bool fk, .string nt, .bool nk, .int .i64 (sV h' o'), .int .i64 p', .int .i64 q'] 46)
                      rw [← hv6] at X
                      replace Y := Y.alloc (.cells #[.string ob, .int .i64 fa, .int .i64 fb, .string ft, .bool fk, .string nt, .bool nk, .int .i64 (sV h' o'), .int .i64 p', .int .i64 q'] 46)
                      rw [← hv6] at Y
                      replace U := U.alloc (.cells #[.string ob, .int .i64 fa, .int .i64 fb, .string ft, .bool fk, .string nt, .bool nk, .int .i64 (sV h' o'), .int .i64 p', .int .i64 q'] 46)
                      rw [← hv6] at U
                      have V : Blk v6 w6.heap.size 46 #[.string ob, .int .i64 fa, .int .i64 fb, .string ft, .bool fk, .string nt, .bool nk, .int .i64 (sV h' o'), .int .i64 p', .int .i64 q'] := by rw [hv6]; exact Blk.new _ _ _
                      replace hB := hB.alloc hB.size (.cells #[.string ob, .int .i64 fa, .int .i64 fb, .string ft, .bool fk, .string nt, .bool nk, .int .i64 (sV h' o'), .int .i64 p', .int .i64 q'] 46)
                      rw [← hv6] at hB
                      have zV : v6.heap.size = w6.heap.size + 1 := by rw [hv6]; simp
                      clear hv6
                      obtain ⟨v7, hv7⟩ : ∃ v : World, v = v6.alloc (.cells #[.int .i64 a, .int .i64 b] 23) := ⟨_, rfl⟩
                      rw [← hv7]
                      replace X := X.alloc (.cells #[.int .i64 a, .int .i64 b] 23)
                      rw [← hv7] at X
                      replace Y := Y.alloc (.cells #[.int .i64 a, .int .i64 b] 23)
                      rw [← hv7] at Y
                      replace U := U.alloc (.cells #[.int .i64 a, .int .i64 b] 23)
                      rw [← hv7] at U
                      replace V := V.alloc (.cells #[.int .i64 a, .int .i64 b] 23)
                      rw [← hv7] at V
                      have V2 : Blk v7 v6.heap.size 23 #[.int .i64 a, .int .i64 b] := by rw [hv7]; exact Blk.new _ _ _
                      replace hB := hB.alloc hB.size (.cells #[.int .i64 a, .int .i64 b] 23)
                      rw [← hv7] at hB
                      have zV2 : v7.heap.size = v6.heap.size + 1 := by rw [hv7]; simp
                      clear hv7
                      rw [zV] at V2
                      have lV2 := V2.lt
                      have cV := V.cell
                      have HI4 := hide (show (Try.prog.info? 46).map (·.size) = some (#[.string ob, .int .i64 fa, .int .i64 fb, .string ft, .bool fk, .string nt, .bool nk, .int .i64 (sV h' o'), .int .i64 p', .int .i64 q'] : Array Value).size by kernel_rfl)
                      have HI5 := hide (show (#[.string ob, .int .i64 fa, .int .i64 fb, .string ft, .bool fk, .string nt, .bool nk, .int .i64 (sV h' o'), .int .i64 p', .int .i64 q'] : Array Value).all (·.oneCell') = true by simp [Value.oneCell'])
                      go_wp2_with (first | (refine wpList_store_box rfl 46 (.tmp 9) (.tmp 142) rfl yb 46 _ #[.string ob, .int .i64 fa, .int .i64 fb, .string ft, .bool fk, .string nt, .bool nk, .int .i64 (sV h' o'), .int .i64 p', .int .i64 q'] rfl rfl Y rfl HI4.out HI5.out ?_) | fail)
                      intro v8 Yn hbn
                      replace hB := hbn.bel _ _ hB hyw
                      replace X := hbn.far _ _ _ (by omega) X
                      replace U := hbn.far _ _ _ (by omega) U
                      replace V2 := hbn.far _ _ _ (by omega) V2
                      clear Y hbn HI4 HI5
                      have Y := Yn
                      clear Yn
                      clear cV
                      have cU := U.cell
                      have cV2 := V2.cell
                      have e_a : (a != a) = false := by simp
                      have e_b : (b != b) = false := by simp
                      have e_cq : (c' != c') = false := by simp
                      go_wp2_with fail
                      go_meet
                      exact ⟨h', o', p', q', hpq', X, Y, hB⟩
                    · have q1 : (kd % 3 == 1) = false := by simpa using m1
                      clear m1
                      obtain ⟨h', o', p', q', a, hpq', SP, SR⟩ := close_sim ob fa fb ft fk nt nk wl h o p q hpq
                      have S1 := hide SP
                      have S2 := hide SR
                      clear SP SR
                      go_wp2_with fail
                      refine (S1.out g _ X).mono ?_
                      rintro e w5 ⟨rfl, Xn, hbn⟩
                      have zn := hbn.size
                      replace hB := hbn.bel _ _ hB hgw
                      replace Y := hbn.far _ _ _ (by omega) Y
                      replace K := hbn.far _ _ _ (by omega) K
                      clear X hbn
                      have X := Xn
                      clear Xn
                      clear cK cY
                      have cK := K.cell
                      have cY := Y.cell
                      go_wp2_with fail
                      refine (S2.out _).mono ?_
                      rintro e w6 ⟨rfl, hbc⟩
                      replace hB := hB.trans (hbc.mono hB.size)
                      replace X := X.below hbc X.lt
                      replace Y := Y.below hbc Y.lt
                      replace K := K.below hbc K.lt
                      clear hbc
                      clear cK cY
                      have lK := K.lt
                      have lY := Y.lt
                      have lX := X.lt
                      go_upto_region 21 with fail
                      obtain ⟨v6, hv6⟩ : ∃ v : World, v = w6.alloc (.cells #[.string ob, .int .i64 fa, .int .i64 fb, .string ft, .bool fk, .string nt, .bool nk, .int .i64 (sV h' o'), .int .i64 p', .int .i64 q'] 46) := ⟨_, rfl⟩
                      rw [← hv6]
                      replace X := X.alloc (.cells #[.string ob, .int .i64 fa, .int .i64 fb, .string ft, .bool fk, .string nt, .bool nk, .int .i64 (sV h' o'), .int .i64 p', .int .i64 q'] 46)
                      rw [← hv6] at X
                      replace Y := Y.alloc (.cells #[.string ob, .int .i64 fa, .int .i64 fb, .string ft, .bool fk, .string nt, .bool nk, .int .i64 (sV h' o'), .int .i64 p', .int .i64 q'] 46)
                      rw [← hv6] at Y
                      replace K := K.alloc (.cells #[.string ob, .int .i64 fa, .int .i64 fb, .string ft, .bool fk, .string nt, .bool nk, .int .i64 (sV h' o'), .int .i64 p', .int .i64 q'] 46)
                      rw [← hv6] at K
                      have V : Blk v6 w6.heap.size 46 #[.string ob, .int .i64 fa, .int .i64 fb, .string ft, .bool fk, .string nt, .bool nk, .int .i64 (sV h' o'), .int .i64 p', .int .i64 q'] := by rw [hv6]; exact Blk.new _ _ _
                      replace hB := hB.alloc hB.size (.cells #[.string ob, .int .i64 fa, .int .i64 fb, .string ft, .bool fk, .string nt, .bool nk, .int .i64 (sV h' o'), .int .i64 p', .int .i64 q'] 46)
                      rw [← hv6] at hB
                      have zV : v6.heap.size = w6.heap.size + 1 := by rw [hv6]; simp
                      clear hv6
                      have cV := V.cell
                      have HI4 := hide (show (Try.prog.info? 46).map (·.size) = some (#[.string ob, .int .i64 fa, .int .i64 fb, .string ft, .bool fk, .string nt, .bool nk, .int .i64 (sV h' o'), .int .i64 p', .int .i64 q'] : Array Value).size by kernel_rfl)
                      have HI5 := hide (show (#[.string ob, .int .i64 fa, .int .i64 fb, .string ft, .bool fk, .string nt, .bool nk, .int .i64 (sV h' o'), .int .i64 p', .int .i64 q'] : Array Value).all (·.oneCell') = true by simp [Value.oneCell'])
                      go_wp2_with (first | (refine wpList_store_box rfl 46 (.tmp 9) (.tmp 95) rfl yb 46 _ #[.string ob, .int .i64 fa, .int .i64 fb, .string ft, .bool fk, .string nt, .bool nk, .int .i64 (sV h' o'), .int .i64 p', .int .i64 q'] rfl rfl Y rfl HI4.out HI5.out ?_) | fail)
                      intro v7 Yn hbn
                      replace hB := hbn.bel _ _ hB hyw
                      replace X := hbn.far _ _ _ (by omega) X
                      clear Y hbn HI4 HI5
                      have Y := Yn
                      clear Yn
                      have e_a : (a != a) = false := by simp
                      go_wp2_with fail
                      go_meet
                      exact ⟨h', o', p', q', hpq', X, Y, hB⟩
                case rest =>
                  obtain ⟨h', o', p', q', hpq', X, Y, hB⟩ := hcut
                  clear hB1 X1 Y1 cY1 cK hr1
                  obtain ⟨a, b, r, SP, SR⟩ := rest_sim ob fa fb ft fk nt nk h' o' p' q' hpq'
                  have S1 := hide SP
                  have S2 := hide SR
                  clear SP SR
                  go_wp2_with fail
                  refine (S1.out g _ X).mono ?_
                  rintro e w5 ⟨rfl, hbc⟩
                  replace hB := hB.trans (hbc.mono hB.size)
                  replace X := X.below hbc X.lt
                  replace Y := Y.below hbc Y.lt
                  clear hbc
                  go_upto_region 37 with fail
                  obtain ⟨v5, hv5⟩ : ∃ v : World, v = w5.alloc (.cells #[.int .i64 a, .int .i64 b] 23) := ⟨_, rfl⟩
                  rw [← hv5]
                  replace X := X.alloc (.cells #[.int .i64 a, .int .i64 b] 23)
                  rw [← hv5] at X
                  replace Y := Y.alloc (.cells #[.int .i64 a, .int .i64 b] 23)
                  rw [← hv5] at Y
                  have U : Blk v5 w5.heap.size 23 #[.int .i64 a, .int .i64 b] := by rw [hv5]; exact Blk.new _ _ _
                  replace hB := hB.alloc hB.size (.cells #[.int .i64 a, .int .i64 b] 23)
                  rw [← hv5] at hB
                  have zU : v5.heap.size = w5.heap.size + 1 := by rw [hv5]; simp
                  clear hv5
                  have cY := Y.cell
                  go_wp2_with fail
                  refine (S2.out _).mono ?_
                  rintro e w6 ⟨rfl, hbc⟩
                  replace hB := hB.trans (hbc.mono hB.size)
                  replace X := X.below hbc X.lt
                  replace Y := Y.below hbc Y.lt
                  replace U := U.below hbc U.lt
                  clear hbc
                  clear cY
                  go_upto_region 38 with fail
                  obtain ⟨v6, hv6⟩ : ∃ v : World, v = w6.alloc (.cells #[.int .i64 a, .int .i64 b] 23) := ⟨_, rfl⟩
                  rw [← hv6]
                  replace X := X.alloc (.cells #[.int .i64 a, .int .i64 b] 23)
                  rw [← hv6] at X
                  replace Y := Y.alloc (.cells #[.int .i64 a, .int .i64 b] 23)
                  rw [← hv6] at Y
                  replace U := U.alloc (.cells #[.int .i64 a, .int .i64 b] 23)
                  rw [← hv6] at U
                  have V : Blk v6 w6.heap.size 23 #[.int .i64 a, .int .i64 b] := by rw [hv6]; exact Blk.new _ _ _
                  replace hB := hB.alloc hB.size (.cells #[.int .i64 a, .int .i64 b] 23)
                  rw [← hv6] at hB
                  have zV : v6.heap.size = w6.heap.size + 1 := by rw [hv6]; simp
                  clear hv6
                  have qU : ∀ (x : Bel v6.heap.size v6) i, x.w.cell? ⟨w5.heap.size, i, none⟩ = (#[.int .i64 a, .int .i64 b] : Array Value)[i]? := fun x i => (U.below x.h U.lt).cell i
                  have qV : ∀ (x : Bel v6.heap.size v6) i, x.w.cell? ⟨w6.heap.size, i, none⟩ = (#[.int .i64 a, .int .i64 b] : Array Value)[i]? := fun x i => (V.below x.h V.lt).cell i
                  have qY : ∀ (x : Bel v6.heap.size v6) i, x.w.cell? ⟨yb, i, none⟩ = (#[.string ob, .int .i64 fa, .int .i64 fb, .string ft, .bool fk, .string nt, .bool nk, .int .i64 (sV h' o'), .int .i64 p', .int .i64 q'] : Array Value)[i]? := fun x i => (Y.below x.h Y.lt).cell i
                  have uX := hide (show ∀ x : Bel v6.heap.size v6, Blk x.w g 74 #[.string ob, .int .i64 fa, .int .i64 fb, .string ft, .bool fk, .string nt, .bool nk, .bool h', .bool o', .int .i64 p', .int .i64 q'] from fun x => X.below x.h X.lt)
                  have e_1 : (sV h' o' == 2) = o' := sV_over h' o'
                  have e_a : (a != a) = false := by simp
                  have e_b : (b != b) = false := by simp
                  have e_r : (r != r) = false := by simp
                  have e_oq : (o' != o') = false := by simp
                  refine wp_region_bel v6.heap.size (by kernel_rfl) (by kernel_rfl) ?_
                  repeat (go_big_quiet_step ((first | (go_at_call 26; exact bel_call (Nat.le_refl _) (over_any ob fa fb ft fk nt nk h' o' p' q' g _ (uX.out _))))))
                  refine wpQuiet_nil ?_
                  rintro w9 ⟨⟨_, hb9⟩, rfl⟩
                  have hB9 := hB.trans (hb9.mono hB.size)
                  replace X := X.below hb9 X.lt
                  replace Y := Y.below hb9 Y.lt
                  clear qU qV qY uX hb9
                  go_wp2
                  go_roundw
                  case rel => exact ⟨k + 1, h', o', p', q', by omega, by go_num, hpq', X, Y, hB9⟩
                  case measure => simp [intOf]; omega
              · have d77 : decide ((k : Int) < (ls.length : Int)) = false := by simp; omega
                go_wp2
                go_ret
                exact ⟨rfl, hB⟩

theorem ps : ∀ t ∈ Try.f4.params.toList, Try.prog.readableRec t = true ∧ t < Try.prog.types.size := by
  rw [Try.params4]
  intro t ht
  simp at ht
  rcases ht with rfl | rfl
  all_goals exact ⟨by kernel_rfl, of_decide_eq_true (by kernel_rfl)⟩

set_option maxRecDepth 100000 in
theorem lifted (os : Os) (started : os.Started) (H : Type) (enc : TypeId × Value → H) :
    ReturnsInHanded {} Try.checked os 4 .any (Rows.fetchPlaysSpec.pre6 enc Try.prog Try.f4 Rows.fetchPlaysRow.domain false) (Rows.fetchPlaysSpec.post enc Try.prog Try.f4 false true false false) := by
  refine returnsInHanded_of_change (C := Try.checked) law_own started (by kernel_rfl) Try.func4
    (ChangeSpec.witness6 (enc := enc) (C := Try.checked) false ⟨#[], #[.agg #[.string ByteArray.empty, .int .i64 0, .int .i64 0, .string ByteArray.empty, .bool false, .string ByteArray.empty, .bool false], .slice none 0 0], []⟩ 8 (by kernel_rfl) (by kernel_rfl) (by kernel_rfl) (by kernel_rfl)) ?_
  intro W base args ds gs before hval0 hW hcnd _
  have hval : ∀ (j : Nat) t v, Try.f4.params[j]? = some t → args[j]? = some v → Value.okWide Try.prog W .any base t v := hval0
  have hW' := hW
  have hlt : ∀ p ∈ before, p.block < W.heap.size := fun p hp => hW.lt p hp
  obtain ⟨p, q, hA0, hV, rfl, hfz, hnd⟩ := hW
  have hA : DataW.TrodAll enc Try.prog W 0 (fun _ => true) true Try.f4.params.toList args.toList ds p := hA0
  rw [Try.params4] at hA hval
  obtain ⟨v0, vs0, d0, ds0, p0, q0, hargs, rfl, rfl, h0, r0⟩ := trodAll_cons hA
  obtain ⟨v1, vs1, d1, ds1, p1, q1, rfl, rfl, rfl, h1, r1⟩ := trodAll_cons r0
  obtain ⟨rfl, rfl, rfl⟩ := trodAll_nil r1
  obtain rfl : args = #[v0, v1] := by cases args; simp_all
  obtain ⟨rfl, rfl⟩ := trodVars_none hV
  obtain ⟨cs0, fu0, x0, rfl, t0⟩ := open_struct Try.underlying27 (hval 0 27 v0 rfl rfl) h0
  obtain ⟨ob, fa, fb, ft, fk, nt, nk, rfl, hob, hft, hnt⟩ := open_fetch t0
  obtain ⟨ls, hl⟩ := open_acts (hval 1 38 v1 rfl rfl) h1
  clear hA0 hval0
  refine (walk ob fa fb ft fk nt nk _ ls hob hft hnt W hl).mono fun e W' ⟨he, hb⟩ => ?_
  subst he
  exact ⟨_, rfl, law_close hW' rfl rfl rfl ps hb⟩

theorem proved : Rows.FetchPlaysSaid :=
  OpenClaim.holds_of_wide 4 Try.f4 rfl rfl rfl rfl rfl rfl rfl ⟨rfl, rfl, rfl, rfl, rfl⟩ rfl rfl rfl rfl rfl (by kernel_rfl) Try.func4 (by kernel_rfl)
    (of_decide_eq_true (by kernel_rfl)) (by unfold Func.isWrapper; first | (rw [if_pos (by decide +kernel)]; kernel_rfl) | (rw [if_neg (by decide +kernel)]; exact ⟨rfl, rfl⟩))
    (fun os started H enc _ => lifted os started H enc)
#print axioms proved

end Go.Proofs.Ytdbocpgkedgpcaa.fetchPlays
