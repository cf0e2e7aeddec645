/-
  The fields that say a version: the reference's walk.
-/
import Derived.Test.YtmelcndflllgmaaGreatDoorGrFl
import Derived.Test.YtmelcndflllgmaaGreatDoorGrRb
import Derived.Test.YtmelcndflllgmaaGreatDoorGrM
import Derived.Test.YtmelcndflllgmaaGreatDoorGrD
namespace Go.Proofs.YtmelcndflllgmaaGreatDoor
open Go.RowKit
set_option linter.unusedVariables false
set_option linter.unusedSimpArgs false

set_option maxRecDepth 100000 in
set_option maxHeartbeats 16000000 in
theorem rfields_yes (mt : ByteArray) (mk : Bool) (md ln hv fr wh er : Int) (kv : Value) (tn : ByteArray) (kp : Bool) (age : Int) (ks : List ByteArray) (w : World) (hmt : mt.size ≤ 9223372036854775807) (htn : tn.size ≤ 9223372036854775807) (hr : RdStrs w w.heap.size kv ks) (hm : metaOk mt mk md ln hv fr wh er ks tn = true) (ha : tickOk age = true) :
    Calls Tryz.prog 14 #[.agg #[.string mt, .bool mk, .int .i64 md, .int .i64 ln, .int .i64 hv, .int .i64 fr, .int .i64 wh, .int .i64 er, kv, .string tn, .bool kp], .int .i64 age] w (FieldsOk mt mk md ln hv fr wh er ks tn kp age w) := by
  have hnum : numsOk md ln hv = true ∧ keysB ks = true := by unfold metaOk at hm; simp only [Bool.and_eq_true] at hm; exact ⟨hm.2.1, hm.2.2.2.1⟩
  have hkb := hnum.2
  have hkk := keys_in hkb
  have hnn : -1 ≤ md ∧ md ≤ 253402300799 ∧ -1 ≤ ln ∧ ln ≤ 1099511627776 ∧ 0 ≤ hv ∧ hv ≤ 1099511627776 := by have := hnum.1; unfold numsOk at this; simp only [decide_eq_true_eq] at this; omega
  have hag : 0 ≤ age ∧ age ≤ 1099511627776 := by unfold tickOk at ha; simpa using ha
  have hi1 : -9223372036854775808 ≤ withinV fr ∧ withinV fr ≤ 9223372036854775807 := by have := within_in fr; omega
  have hi2 : -9223372036854775808 ≤ swrV wh ∧ swrV wh ≤ 9223372036854775807 := by have := swr_in wh; omega
  have hi3 : -9223372036854775808 ≤ swrV er ∧ swrV er ≤ 9223372036854775807 := by have := swr_in er; omega
  obtain ⟨A, c, rfl, hkc0, hc0⟩ := hr.form
  have HR := hide hr
  have HR0 := HR
  have HM := hide hm
  clear hr hm ha hnum
  have da : decide (age < 0) = false := decide_eq_false (by omega)
  have db : decide (1099511627776 < age) = false := decide_eq_false (by omega)
  go_enter Tryz.func14, Tryz.ntmps14
  go_wp2_with fail
  obtain ⟨w1, hw1⟩ : ∃ w1 : World, w1 = (w).alloc (.cells #[.string mt, .bool mk, .int .i64 md, .int .i64 ln, .int .i64 hv, .int .i64 fr, .int .i64 wh, .int .i64 er, .slice A ks.length c, .string tn, .bool kp] 29) := ⟨_, rfl⟩
  rw [← hw1]
  have hB1 : Below w.heap.size w w1 := by rw [hw1]; exact ((Below.refl _ _).alloc (Nat.le_refl _) _)
  have T : Blk w1 (w.heap.size) 29 #[.string mt, .bool mk, .int .i64 md, .int .i64 ln, .int .i64 hv, .int .i64 fr, .int .i64 wh, .int .i64 er, .slice A ks.length c, .string tn, .bool kp] := by rw [hw1]; exact (Blk.new _ _ _)
  have HR1 := hide ((HR0.out.below hB1).mono hB1.size)
  clear hw1
  have cT := T.cell
  refine (rmeta_right mt mk md ln hv fr wh er _ tn kp ks _ hmt htn HR1.out).mono ?_
  rintro e w2 ⟨rfl, hb2⟩
  rw [HM.out]
  replace T := T.below hb2 T.lt
  have hB := hB1.trans (hb2.mono hB1.size)
  clear cT hb2 hB1 HR1
  have cT := T.cell
  have zB := hB.size
  have O : OwnL LF w.heap.size w2 (.slice none 0 0) [] := OwnL.nil _ _ _
  obtain ⟨l0, hl0⟩ : ∃ x : List FieldL, x = [] := ⟨_, rfl⟩
  rw [← hl0] at O
  have n0 : l0.length ≤ 0 := by rw [hl0]; exact Nat.le_refl _
  have HE0 := hide hl0
  clear hl0
  go_wp2_with fail
  refine (rnone_any mt mk _).mono ?_
  rintro e y9 ⟨rfl, hbc⟩
  replace O := O.below hbc (Nat.le_refl _)
  replace T := T.below hbc T.lt
  replace hB := hB.trans (hbc.mono hB.size)
  clear cT hbc
  have cT := T.cell
  have zB := hB.size
  go_upto_if 25 with fail
  go_cut [6] (fun v wx => OwnL LF w.heap.size wx v (l0 ++ flagF (someTag (mt, mk)) ([69, 84, 97, 103], textB (mt.data.toList, mk))) ∧ Blk wx w.heap.size 29 #[.string mt, .bool mk, .int .i64 md, .int .i64 ln, .int .i64 hv, .int .i64 fr, .int .i64 wh, .int .i64 er, .slice A ks.length c, .string tn, .bool kp] ∧ Below w.heap.size w wx)
  case first =>
    cases hsm : someTag (mt, mk)
    · go_wp2_with fail
      go_meet
      exact ⟨by rw [hsm, flagF_no, List.append_nil]; exact O, T, hB⟩
    · go_wp2_with fail
      refine (rtext_any mt mk _ hmt).mono ?_
      rintro e y0 ⟨t, ht, rfl, hbc⟩
      replace O := O.below hbc (Nat.le_refl _)
      replace T := T.below hbc T.lt
      replace hB := hB.trans (hbc.mono hB.size)
      clear cT hbc
      have cT := T.cell
      have zB := hB.size
      obtain rfl : t = _ := str_of ht
      clear ht
      go_wp2_with (at_builtin; refine wpList_appL LF w (by rfl) (.tmp 26) (.tmp 31) _ _ (by rfl) rfl rfl w.heap.size _ _ (by rfl) (O.alloc _) (hB.alloc hB.size _) (by simp; omega) _ [([69, 84, 97, 103], textB (mt.data.toList, mk))] _ (by rfl) (RdL.one_ (Blk.new _ _ _) (by rw [LFenc])) (by decide) (by show _ + 1 ≤ 1000000000; omega) ?_)
      intro v6 w6 O6 hB6 hg6 _
      have T6 := Blk.grown (T.alloc _) hg6 (O.not_blk T (by decide))
      clear cT
      go_wp2_with fail
      go_meet
      exact ⟨by rw [hsm, flagF_yes]; exact O6, T6, hB6⟩
  case rest =>
    obtain ⟨O, T, hB⟩ := hcut
    have cT := T.cell
    have zB := hB.size
    obtain ⟨l1, hl1⟩ : ∃ x, x = l0 ++ flagF (someTag (mt, mk)) ([69, 84, 97, 103], textB (mt.data.toList, mk)) := ⟨_, rfl⟩
    rw [← hl1] at O
    have n1 : l1.length ≤ 3 := by rw [hl1, List.length_append]; have := flagF_len (someTag (mt, mk)) (([69, 84, 97, 103], textB (mt.data.toList, mk))); (try simp only [List.length_nil]); omega
    have HE1 := hide hl1
    clear hl1
    go_upto_if 35 with fail
    go_cut [6] (fun v wx => ∃ dt : List UInt8, (md = -1 ∨ IsText md ⟨dt.toArray⟩) ∧ OwnL LF w.heap.size wx v (l1 ++ flagF (md != -1) ([76, 97, 115, 116, 45, 77, 111, 100, 105, 102, 105, 101, 100], dt)) ∧ Blk wx w.heap.size 29 #[.string mt, .bool mk, .int .i64 md, .int .i64 ln, .int .i64 hv, .int .i64 fr, .int .i64 wh, .int .i64 er, .slice A ks.length c, .string tn, .bool kp] ∧ Below w.heap.size w wx)
    case first =>
      by_cases hmd : md = -1
      · have d1 : decide (0 ≤ md) = false := by rw [hmd]; rfl
        have d2 : (md != -1) = false := by simpa using hmd
        have HM2 := hide hmd
        have hlt0 : md < 0 := by omega
        clear hmd
        go_wp2_with fail
        go_meet
        exact ⟨[], .inl HM2.out, by rw [d2, flagF_no, List.append_nil]; exact O, T, hB⟩
      · have d1 : decide (0 ≤ md) = true := decide_eq_true (by omega)
        have d2 : (md != -1) = true := by simpa using hmd
        go_wp2_with fail
        refine (rtext_yes md _ (by omega) (by omega)).mono ?_
        rintro e y1 ⟨ty, tm, td, tk, ts, htold, rfl, hbc⟩
        replace O := O.below hbc (Nat.le_refl _)
        replace T := T.below hbc T.lt
        replace hB := hB.trans (hbc.mono hB.size)
        clear cT hbc
        have cT := T.cell
        have zB := hB.size
        go_wp2_with (at_builtin; refine wpList_appL LF w (by rfl) (.tmp 42) (.tmp 45) _ _ (by rfl) rfl rfl w.heap.size _ _ (by rfl) (O.alloc _) (hB.alloc hB.size _) (by simp; omega) _ [([76, 97, 115, 116, 45, 77, 111, 100, 105, 102, 105, 101, 100], textL ty tm td tk ts)] _ (by rfl) (RdL.one_ (Blk.new _ _ _) (by rw [LFenc])) (by decide) (by show _ + 1 ≤ 1000000000; omega) ?_)
        intro v6 w6 O6 hB6 hg6 _
        have T6 := Blk.grown (T.alloc _) hg6 (O.not_blk T (by decide))
        clear cT
        go_wp2_with fail
        go_meet
        exact ⟨textL ty tm td tk ts, .inr ⟨ty, tm, td, tk, ts, htold, rfl⟩, by rw [d2, flagF_yes]; exact O6, T6, hB6⟩
    case rest =>
      obtain ⟨dt, hdt, O, T, hB⟩ := hcut
      have cT := T.cell
      have zB := hB.size
      obtain ⟨l2, hl2⟩ : ∃ x, x = l1 ++ flagF (md != -1) ([76, 97, 115, 116, 45, 77, 111, 100, 105, 102, 105, 101, 100], dt) := ⟨_, rfl⟩
      rw [← hl2] at O
      have n2 : l2.length ≤ 4 := by rw [hl2, List.length_append]; have := flagF_len (md != -1) (([76, 97, 115, 116, 45, 77, 111, 100, 105, 102, 105, 101, 100], dt)); (try simp only [List.length_nil]); omega
      have HE2 := hide hl2
      clear hl2
      go_wp2_with fail
      refine (rof_any mt mk md ln hv fr wh er _ tn kp _).mono ?_
      rintro e y2 ⟨rfl, hbc⟩
      replace O := O.below hbc (Nat.le_refl _)
      replace T := T.below hbc T.lt
      replace hB := hB.trans (hbc.mono hB.size)
      clear cT hbc
      have cT := T.cell
      have zB := hB.size
      go_wp2_with fail
      unfold ofC
      refine (rctl_text (-1) (withinV fr) (swrV wh) (swrV er) (!kp) false false _ (by omega) hi1 hi2 hi3).mono ?_
      rintro e y3 ⟨rfl, hbc⟩
      replace O := O.below hbc (Nat.le_refl _)
      replace T := T.below hbc T.lt
      replace hB := hB.trans (hbc.mono hB.size)
      clear cT hbc
      have cT := T.cell
      have zB := hB.size
      go_wp2_with (at_builtin; refine wpList_appL LF w (by rfl) (.tmp 47) (.tmp 52) _ _ (by rfl) rfl rfl w.heap.size _ _ (by rfl) (O.alloc _) (hB.alloc hB.size _) (by simp; omega) _ [([67, 97, 99, 104, 101, 45, 67, 111, 110, 116, 114, 111, 108], ctlText (-1) (withinV fr) (swrV wh) (swrV er) (!kp) false false)] _ (by rfl) (RdL.one_ (Blk.new _ _ _) (by rw [LFenc])) (by decide) (by show _ + 1 ≤ 1000000000; omega) ?_)
      intro v6 w6 O6 hB6 hg6 _
      have T6 := Blk.grown (T.alloc _) hg6 (O.not_blk T (by decide))
      clear cT
      replace O := O6
      replace T := T6
      replace hB := hB6
      clear O6 T6 hB6
      have cT := T.cell
      have zB := hB.size
      obtain ⟨l3, hl3⟩ : ∃ x, x = l2 ++ [([67, 97, 99, 104, 101, 45, 67, 111, 110, 116, 114, 111, 108], ctlText (-1) (withinV fr) (swrV wh) (swrV er) (!kp) false false)] := ⟨_, rfl⟩
      rw [← hl3] at O
      have n3 : l3.length ≤ 5 := by rw [hl3, List.length_append]; simp only [List.length_cons, List.length_nil]; omega
      have HE3 := hide hl3
      clear hl3
      go_wp2_with fail
      refine (rdigits_any age _ (by omega) (by omega)).mono ?_
      rintro e y4 ⟨rfl, hbc⟩
      replace O := O.below hbc (Nat.le_refl _)
      replace T := T.below hbc T.lt
      replace hB := hB.trans (hbc.mono hB.size)
      clear cT hbc
      have cT := T.cell
      have zB := hB.size
      go_wp2_with (at_builtin; refine wpList_appL LF w (by rfl) (.tmp 54) (.tmp 58) _ _ (by rfl) rfl rfl w.heap.size _ _ (by rfl) (O.alloc _) (hB.alloc hB.size _) (by simp; omega) _ [([65, 103, 101], Lib.itoa age)] _ (by rfl) (RdL.one_ (Blk.new _ _ _) (by rw [LFenc])) (by decide) (by show _ + 1 ≤ 1000000000; omega) ?_)
      intro v6 w6 O6 hB6 hg6 _
      have T6 := Blk.grown (T.alloc _) hg6 (O.not_blk T (by decide))
      clear cT
      replace O := O6
      replace T := T6
      replace hB := hB6
      clear O6 T6 hB6
      have cT := T.cell
      have zB := hB.size
      obtain ⟨l4, hl4⟩ : ∃ x, x = l3 ++ [([65, 103, 101], Lib.itoa age)] := ⟨_, rfl⟩
      rw [← hl4] at O
      have n4 : l4.length ≤ 6 := by rw [hl4, List.length_append]; simp only [List.length_cons, List.length_nil]; omega
      have HE4 := hide hl4
      clear hl4
      go_upto_if 63 with fail
      go_cut [6] (fun v wx => OwnL LF w.heap.size wx v (l4 ++ flagF (decide (0 < ks.length)) ([83, 117, 114, 114, 111, 103, 97, 116, 101, 45, 75, 101, 121], Lib.join (ks.map (·.data.toList)) [32])) ∧ Blk wx w.heap.size 29 #[.string mt, .bool mk, .int .i64 md, .int .i64 ln, .int .i64 hv, .int .i64 fr, .int .i64 wh, .int .i64 er, .slice A ks.length c, .string tn, .bool kp] ∧ Below w.heap.size w wx)
      case first =>
        by_cases hk0 : 0 < ks.length
        · have d1 : decide ((ks.length : Int) > 0) = true := decide_eq_true (by omega)
          have d2 : decide (0 < ks.length) = true := decide_eq_true hk0
          obtain ⟨lk, hlk⟩ : ∃ x, x = ks.map (·.data.toList) := ⟨_, rfl⟩
          have hll : lk.length = ks.length := by rw [hlk, List.length_map]
          have hbb : (Lib.join lk [32]).length ≤ 140737488355328 := by rw [hlk]; exact join_keys hkb
          have RK : RdL LW _ _ (.slice A ks.length c) (ks.map (·.data.toList)) := ((HR.out.below hB).mono hB.size).rdl
          rw [← hlk] at RK
          have HC := hide RK.at_
          have HLK := hide (show ks.map (·.data.toList) = lk from hlk.symm)
          clear RK hlk
          have HLL := hide hll
          have hll1 : lk.length ≤ ks.length := by omega
          have hll2 : ks.length ≤ lk.length := by omega
          go_wp2
          go_loop [9, 10] (fun s i => ∃ k : Nat, k ≤ ks.length ∧ i = .int .i64 k ∧ s = .string ⟨(joinTo lk [32] k).toArray⟩) (fun _ i => ks.length - (intOf i).toNat)
          case atStart => exact ⟨0, Nat.zero_le _, rfl, by rw [joinTo_zero]⟩
          case round =>
            obtain ⟨k, hk, rfl, rfl⟩ := hrel
            by_cases hlt : k < lk.length
            · have hltk : k < ks.length := by omega
              obtain ⟨b, off, rfl, hbl, cc⟩ := HC.out k hlt
              have c1 := cc 0 _ rfl
              simp only [LW, Nat.mul_one, Nat.add_zero] at c1
              clear cc
              have kz : (k : Int) < (ks.length : Int) := by omega
              have hst := joinTo_succ (sep := [32]) hlt
              have hbd := joinTo_le (l := lk) (sep := [32]) (k := k + 1) hlt
              by_cases hk0 : k = 0
              · rw [if_pos hk0] at hst
                have hz0 : joinTo lk [32] k = [] := by rw [hk0, joinTo_zero]
                have dk : decide ((k : Int) > 0) = false := decide_eq_false (by omega)
                have dk2 : decide (0 < k) = false := decide_eq_false (by omega)
                have dk3 : ¬ 0 < k := by omega
                have HS := hide (show (⟨(joinTo lk [32] k).toArray⟩ : ByteArray) ++ ⟨(lk[k]).toArray⟩ = ⟨(joinTo lk [32] (k + 1)).toArray⟩ by rw [bapp, hst, hz0])
                have hJ : ¬ 9223372036854775807 < (joinTo lk [32] k).length + (lk[k]).length := by rw [hz0]; rw [hst] at hbd; simp at hbd ⊢; omega
                have HK0 := hide hk0
                clear hst hbd hz0 hk0
                go_wp2
                go_round
                case rel => exact ⟨k + 1, by omega, by go_num, by rw [HS.out]⟩
                case measure => simp [intOf]; omega
              · rw [if_neg hk0] at hst
                have dk : decide ((k : Int) > 0) = true := decide_eq_true (by omega)
                have hJ0 : ¬ 9223372036854775807 < (joinTo lk [32] k).length + 1 := by rw [hst] at hbd; simp at hbd; omega
                have hJ : ¬ 9223372036854775807 < (joinTo lk [32] k).length + 1 + (lk[k]).length := by rw [hst] at hbd; simp at hbd; omega
                have HS := hide (show ((⟨(joinTo lk [32] k).toArray⟩ : ByteArray) ++ ⟨#[32]⟩) ++ ⟨(lk[k]).toArray⟩ = ⟨(joinTo lk [32] (k + 1)).toArray⟩ by rw [hst, ← bapp, ← bapp])
                clear hst hbd
                go_wp2
                go_round
                case rel => exact ⟨k + 1, by omega, by go_num, by rw [HS.out]⟩
                case measure => simp [intOf]; omega
            · have HS := hide (joinTo_all (l := lk) (sep := [32]) (k := k) (by omega))
              have kz : ¬ (k : Int) < (ks.length : Int) := by omega
              have kz2 : decide ((k : Int) < (ks.length : Int)) = false := decide_eq_false kz
              go_wp2_with (at_builtin; refine wpList_appL LF w (by rfl) (.tmp 82) (.tmp 85) _ _ (by rfl) rfl rfl w.heap.size _ _ (by rfl) (O.alloc _) (hB.alloc hB.size _) (by simp; omega) _ [([83, 117, 114, 114, 111, 103, 97, 116, 101, 45, 75, 101, 121], Lib.join lk [32])] _ (by rfl) (RdL.one_ (Blk.new _ _ _) (by rw [LFenc, ← HS.out])) (by decide) (by show _ + 1 ≤ 1000000000; omega) ?_)
              intro v6 w6 O6 hB6 hg6 _
              have T6 := Blk.grown (T.alloc _) hg6 (O.not_blk T (by decide))
              clear cT
              go_wp2_with fail
              go_meet
              exact ⟨by rw [d2, flagF_yes, HLK.out]; exact O6, T6, hB6⟩
        · have d1 : decide ((ks.length : Int) > 0) = false := decide_eq_false (by omega)
          have d2 : decide (0 < ks.length) = false := decide_eq_false hk0
          go_wp2_with fail
          go_meet
          exact ⟨by rw [d2, flagF_no, List.append_nil]; exact O, T, hB⟩
      case rest =>
        obtain ⟨O, T, hB⟩ := hcut
        have cT := T.cell
        have zB := hB.size
        obtain ⟨l5, hl5⟩ : ∃ x, x = l4 ++ flagF (decide (0 < ks.length)) ([83, 117, 114, 114, 111, 103, 97, 116, 101, 45, 75, 101, 121], Lib.join (ks.map (·.data.toList)) [32]) := ⟨_, rfl⟩
        rw [← hl5] at O
        have n5 : l5.length ≤ 7 := by rw [hl5, List.length_append]; have := flagF_len (decide (0 < ks.length)) (([83, 117, 114, 114, 111, 103, 97, 116, 101, 45, 75, 101, 121], Lib.join (ks.map (·.data.toList)) [32])); (try simp only [List.length_nil]); omega
        have HE5 := hide hl5
        clear hl5
        go_upto_if 89 with fail
        go_cut [6] (fun v wx => OwnL LF w.heap.size wx v (l5 ++ flagF (!(tn.toList == [])) ([88, 45, 84, 101, 110, 97, 110, 116], tn.data.toList)) ∧ Blk wx w.heap.size 29 #[.string mt, .bool mk, .int .i64 md, .int .i64 ln, .int .i64 hv, .int .i64 fr, .int .i64 wh, .int .i64 er, .slice A ks.length c, .string tn, .bool kp] ∧ Below w.heap.size w wx)
        case first =>
          cases htn0 : tn.toList.isEmpty
          · have E0 := hide (flag_some htn0)
            clear htn0
            go_wp2_with (at_builtin; refine wpList_appL LF w (by rfl) (.tmp 90) (.tmp 94) _ _ (by rfl) rfl rfl w.heap.size _ _ (by rfl) (O.alloc _) (hB.alloc hB.size _) (by simp; omega) _ [([88, 45, 84, 101, 110, 97, 110, 116], tn.data.toList)] _ (by rfl) (RdL.one_ (Blk.new _ _ _) (by rw [LFenc, bytes_str])) (by decide) (by show _ + 1 ≤ 1000000000; omega) ?_)
            intro v6 w6 O6 hB6 hg6 _
            have T6 := Blk.grown (T.alloc _) hg6 (O.not_blk T (by decide))
            clear cT
            go_wp2_with fail
            go_meet
            exact ⟨by rw [E0.out, flagF_yes]; exact O6, T6, hB6⟩
          · have E0 := hide (flag_none htn0)
            clear htn0
            go_wp2_with fail
            go_meet
            exact ⟨by rw [E0.out, flagF_no, List.append_nil]; exact O, T, hB⟩
        case rest =>
          obtain ⟨O, T, hB⟩ := hcut
          have cT := T.cell
          have zB := hB.size
          obtain ⟨l6, hl6⟩ : ∃ x, x = l5 ++ flagF (!(tn.toList == [])) ([88, 45, 84, 101, 110, 97, 110, 116], tn.data.toList) := ⟨_, rfl⟩
          rw [← hl6] at O
          have n6 : l6.length ≤ 8 := by rw [hl6, List.length_append]; have := flagF_len (!(tn.toList == [])) (([88, 45, 84, 101, 110, 97, 110, 116], tn.data.toList)); (try simp only [List.length_nil]); omega
          have HE6 := hide hl6
          clear hl6
          by_cases hln : ln = -1
          · have d1 : decide (0 ≤ ln) = false := by rw [hln]; rfl
            have HLN := hide hln
            have hlt0 : ln < 0 := by omega
            clear hln
            go_wp2_with (at_builtin; refine wpList_appL LF w (by rfl) (.tmp 106) (.tmp 108) _ _ (by rfl) rfl rfl w.heap.size _ _ (by rfl) (O.alloc _) (hB.alloc hB.size _) (by simp; omega) _ [([88, 45, 76, 101, 110, 103, 116, 104], [42])] _ (by rfl) (RdL.one_ (Blk.new _ _ _) (by rfl)) (by decide) (by show _ + 1 ≤ 1000000000; omega) ?_)
            intro v6 w6 O6 hB6 hg6 _
            have T6 := Blk.grown (T.alloc _) hg6 (O.not_blk T (by decide))
            clear cT
            replace O := O6
            replace T := T6
            replace hB := hB6
            clear O6 T6 hB6
            have cT := T.cell
            have zB := hB.size
            obtain ⟨l7, hl7⟩ : ∃ x, x = l6 ++ [([88, 45, 76, 101, 110, 103, 116, 104], [42])] := ⟨_, rfl⟩
            rw [← hl7] at O
            have n7 : l7.length ≤ 9 := by rw [hl7, List.length_append]; simp only [List.length_cons, List.length_nil]; omega
            have HE7 := hide hl7
            clear hl7
            go_wp2_with fail
            refine (rdigits_any hv _ (by omega) (by omega)).mono ?_
            rintro e y8 ⟨rfl, hbc⟩
            replace O := O.below hbc (Nat.le_refl _)
            replace T := T.below hbc T.lt
            replace hB := hB.trans (hbc.mono hB.size)
            clear cT hbc
            have cT := T.cell
            have zB := hB.size
            go_wp2_with (at_builtin; refine wpList_appL LF w (by rfl) (.tmp 110) (.tmp 115) _ _ (by rfl) rfl rfl w.heap.size _ _ (by rfl) (O.alloc _) (hB.alloc hB.size _) (by simp; omega) _ [([88, 45, 72, 97, 118, 101], Lib.itoa hv)] _ (by rfl) (RdL.one_ (Blk.new _ _ _) (by rw [LFenc])) (by decide) (by show _ + 1 ≤ 1000000000; omega) ?_)
            intro v6 w6 O6 hB6 hg6 _
            have T6 := Blk.grown (T.alloc _) hg6 (O.not_blk T (by decide))
            clear cT
            go_wp2_with fail
            go_ret2
            rw [HE7.out, List.append_assoc, HE6.out, HE5.out, HE4.out, HE3.out, HE2.out, HE1.out, HE0.out] at O6
            exact ⟨v6, dt, rfl, hdt, by unfold fieldsF lenF; rw [if_pos HLN.out]; exact O6, hB6⟩
          · have d1 : decide (0 ≤ ln) = true := decide_eq_true (by omega)
            have HLN := hide hln
            have hge0 : 0 ≤ ln := by omega
            clear hln
            go_wp2_with fail
            refine (rdigits_any ln _ (by omega) (by omega)).mono ?_
            rintro e y8 ⟨rfl, hbc⟩
            replace O := O.below hbc (Nat.le_refl _)
            replace T := T.below hbc T.lt
            replace hB := hB.trans (hbc.mono hB.size)
            clear cT hbc
            have cT := T.cell
            have zB := hB.size
            go_wp2_with (at_builtin; refine wpList_appL LF w (by rfl) (.tmp 99) (.tmp 104) _ _ (by rfl) rfl rfl w.heap.size _ _ (by rfl) (O.alloc _) (hB.alloc hB.size _) (by simp; omega) _ [([88, 45, 76, 101, 110, 103, 116, 104], Lib.itoa ln)] _ (by rfl) (RdL.one_ (Blk.new _ _ _) (by rw [LFenc])) (by decide) (by show _ + 1 ≤ 1000000000; omega) ?_)
            intro v6 w6 O6 hB6 hg6 _
            have T6 := Blk.grown (T.alloc _) hg6 (O.not_blk T (by decide))
            clear cT
            go_wp2_with fail
            go_ret2
            rw [HE6.out, HE5.out, HE4.out, HE3.out, HE2.out, HE1.out, HE0.out] at O6
            exact ⟨v6, dt, rfl, hdt, by unfold fieldsF lenF; rw [if_neg HLN.out]; exact O6, hB6⟩

set_option maxRecDepth 100000 in
set_option maxHeartbeats 4000000 in
theorem rfields_no (mt : ByteArray) (mk : Bool) (md ln hv fr wh er : Int) (kv : Value) (tn : ByteArray) (kp : Bool) (age : Int) (ks : List ByteArray) (w : World) (hmt : mt.size ≤ 9223372036854775807) (htn : tn.size ≤ 9223372036854775807) (hr : RdStrs w w.heap.size kv ks) (hno : metaOk mt mk md ln hv fr wh er ks tn = false ∨ tickOk age = false) : Calls Tryz.prog 14 #[.agg #[.string mt, .bool mk, .int .i64 md, .int .i64 ln, .int .i64 hv, .int .i64 fr, .int .i64 wh, .int .i64 er, kv, .string tn, .bool kp], .int .i64 age] w (NilArg w) := by
  obtain ⟨A, c, rfl, hkc0, hc0⟩ := hr.form
  have HR0 := hide hr
  clear hr
  by_cases ha : tickOk age = true
  · have hm : metaOk mt mk md ln hv fr wh er ks tn = false := hno.resolve_right (by rw [ha]; simp)
    go_enter Tryz.func14, Tryz.ntmps14
    go_wp2_with fail
    obtain ⟨w1, hw1⟩ : ∃ w1 : World, w1 = (w).alloc (.cells #[.string mt, .bool mk, .int .i64 md, .int .i64 ln, .int .i64 hv, .int .i64 fr, .int .i64 wh, .int .i64 er, .slice A ks.length c, .string tn, .bool kp] 29) := ⟨_, rfl⟩
    rw [← hw1]
    have hB1 : Below w.heap.size w w1 := by rw [hw1]; exact ((Below.refl _ _).alloc (Nat.le_refl _) _)
    have T : Blk w1 (w.heap.size) 29 #[.string mt, .bool mk, .int .i64 md, .int .i64 ln, .int .i64 hv, .int .i64 fr, .int .i64 wh, .int .i64 er, .slice A ks.length c, .string tn, .bool kp] := by rw [hw1]; exact (Blk.new _ _ _)
    have HR1 := hide ((HR0.out.below hB1).mono hB1.size)
    clear hw1
    have cT := T.cell
    refine (rmeta_right mt mk md ln hv fr wh er _ tn kp ks _ hmt htn HR1.out).mono ?_
    rintro e w2 ⟨rfl, hb2⟩
    rw [hm]
    have hB := hB1.trans (hb2.mono hB1.size)
    go_wp2_with fail
    go_ret2
    exact ⟨rfl, hB⟩
  · have ha2 : age < 0 ∨ 1099511627776 < age := by unfold tickOk at ha; simp at ha; omega
    clear ha hno
    go_enter Tryz.func14, Tryz.ntmps14
    go_wp2_with fail
    obtain ⟨w1, hw1⟩ : ∃ w1 : World, w1 = (w).alloc (.cells #[.string mt, .bool mk, .int .i64 md, .int .i64 ln, .int .i64 hv, .int .i64 fr, .int .i64 wh, .int .i64 er, .slice A ks.length c, .string tn, .bool kp] 29) := ⟨_, rfl⟩
    rw [← hw1]
    have hB1 : Below w.heap.size w w1 := by rw [hw1]; exact ((Below.refl _ _).alloc (Nat.le_refl _) _)
    have T : Blk w1 (w.heap.size) 29 #[.string mt, .bool mk, .int .i64 md, .int .i64 ln, .int .i64 hv, .int .i64 fr, .int .i64 wh, .int .i64 er, .slice A ks.length c, .string tn, .bool kp] := by rw [hw1]; exact (Blk.new _ _ _)
    have HR1 := hide ((HR0.out.below hB1).mono hB1.size)
    clear hw1
    have cT := T.cell
    refine (rmeta_right mt mk md ln hv fr wh er _ tn kp ks _ hmt htn HR1.out).mono ?_
    rintro e w2 ⟨rfl, hb2⟩
    have hB := hB1.trans (hb2.mono hB1.size)
    cases q : metaOk mt mk md ln hv fr wh er ks tn
    · go_wp2_with fail
      go_ret2
      exact ⟨rfl, hB⟩
    · by_cases h1 : age < 0
      · have d1 : decide (age < 0) = true := decide_eq_true h1
        go_wp2_with fail
        go_ret2
        exact ⟨rfl, hB⟩
      · have d1 : decide (age < 0) = false := decide_eq_false h1
        have d2 : decide (1099511627776 < age) = true := decide_eq_true (by omega)
        go_wp2_with fail
        go_ret2
        exact ⟨rfl, hB⟩

end Go.Proofs.YtmelcndflllgmaaGreatDoor
