/-
  What may be known behind what may be known behind the first one, may be known behind that; of one that joins it follows itself: for any three Metas.
-/
import Derived.Test.YtmelcndflllgmaaDoorMetE
import Derived.Test.YtmelcndflllgmaaDoorOpenB
import Derived.Test.YtmelcndflllgmaaDoorLaidM
import Derived.Test.YtmelcndflllgmaaDoorLift
import Derived.Test.YtmelcndflllgmaaDoorTie
import Derived.Test.YtmelcndflllgmaaDoorCards
import Derived.SevenTiedAt
import Derived.Deep.DeepCutAuto
import Derived.Deep.RegionHeld3
import Derived.Test.YtmelcndflllgmaaDoorQuiet
namespace Go.Proofs.YtmelcndflllgmaaDoor.metaChain
open Go.ChangeShapes Go.WideShapes Go.ChangeAt Go.RowKit Go.Deep
set_option linter.unusedVariables false
set_option linter.unusedSimpArgs false

theorem list_beq {a b : ByteArray} (h : (a.toList == b.toList) = true) : a = b := by
  rw [ByteArray.toList_eq, ByteArray.toList_eq, beq_iff_eq] at h
  apply ByteArray.ext; exact Array.toList_inj.1 h
theorem follows_self {mt : ByteArray} {mk : Bool} {md ln hv fr wh er : Int} {ks : List ByteArray} {tn : ByteArray} : followsB mt mk md ln hv fr wh er ks tn mt mk md ln hv fr wh er ks tn = (metaOk mt mk md ln hv fr wh er ks tn && joinsB mt mk) := by
  unfold followsB
  have e1 : (md == md) = true := by simp
  have e2 : (if ln = -1 then decide (hv ≤ hv) else (ln == ln)) = true := by split <;> simp
  rw [e1, e2]
  cases h : joinsB mt mk
  · simp
  · have : strongB (mt, mk) (mt, mk) = true := by
      unfold joinsB at h
      simp only [Bool.and_eq_true] at h
      unfold strongB weakB
      simp [h.1, h.2]
    rw [this]; simp
theorem follows_trans {mt mt2 mt3 : ByteArray} {mk mk2 mk3 : Bool} {md ln hv fr wh er md2 ln2 hv2 fr2 wh2 er2 md3 ln3 hv3 fr3 wh3 er3 : Int} {ks ks2 ks3 : List ByteArray} {tn tn2 tn3 : ByteArray}
    (h : followsB mt mk md ln hv fr wh er ks tn mt2 mk2 md2 ln2 hv2 fr2 wh2 er2 ks2 tn2 = true) (g : followsB mt2 mk2 md2 ln2 hv2 fr2 wh2 er2 ks2 tn2 mt3 mk3 md3 ln3 hv3 fr3 wh3 er3 ks3 tn3 = true) :
    followsB mt mk md ln hv fr wh er ks tn mt3 mk3 md3 ln3 hv3 fr3 wh3 er3 ks3 tn3 = true := by
  unfold followsB at *
  simp only [Bool.and_eq_true] at h g ⊢
  obtain ⟨h1, h2, h3, h4, h5, h6⟩ := h
  obtain ⟨g1, g2, g3, g4, g5, g6⟩ := g
  have n1 := meta_nums_of h1
  have n2 := meta_nums_of h2
  have n3 := meta_nums_of g2
  simp only [beq_iff_eq] at h5 g5
  refine ⟨h1, g2, h3, ?_, by simp only [beq_iff_eq]; omega, ?_⟩
  · unfold strongB weakB at *
    simp only [Bool.and_eq_true, Bool.not_eq_true'] at h4 g4 ⊢
    have e := list_beq h4.2.2
    have e' := list_beq g4.2.2
    subst e e'
    exact ⟨⟨h4.1.1, g4.1.2⟩, h4.2⟩
  · by_cases hl : ln = -1
    · rw [if_pos hl] at h6 ⊢
      simp only [decide_eq_true_eq] at h6 ⊢
      by_cases hl2 : ln2 = -1
      · rw [if_pos hl2] at g6
        simp only [decide_eq_true_eq] at g6
        omega
      · rw [if_neg hl2, beq_iff_eq] at g6
        omega
    · rw [if_neg hl, beq_iff_eq] at h6 ⊢
      rw [if_neg (by omega), beq_iff_eq] at g6
      omega

set_option maxRecDepth 100000 in
set_option maxHeartbeats 16000000 in
theorem walk (mt : ByteArray) (mk : Bool) (md ln hv fr wh er : Int) (kv : Value) (tn : ByteArray) (kp : Bool) (mt2 : ByteArray) (mk2 : Bool) (md2 ln2 hv2 fr2 wh2 er2 : Int) (kv2 : Value) (tn2 : ByteArray) (kp2 : Bool) (mt3 : ByteArray) (mk3 : Bool) (md3 ln3 hv3 fr3 wh3 er3 : Int) (kv3 : Value) (tn3 : ByteArray) (kp3 : Bool) (ks : List ByteArray) (ks2 : List ByteArray) (ks3 : List ByteArray) (w : World) (hT : Tab w) (hmt : mt.size ≤ 9223372036854775807) (htn : tn.size ≤ 9223372036854775807) (hr : RdStrs w w.heap.size kv ks) (hmt2 : mt2.size ≤ 9223372036854775807) (htn2 : tn2.size ≤ 9223372036854775807) (hr2 : RdStrs w w.heap.size kv2 ks2) (hmt3 : mt3.size ≤ 9223372036854775807) (htn3 : tn3.size ≤ 9223372036854775807) (hr3 : RdStrs w w.heap.size kv3 ks3) : Calls Tryd.prog 5 #[.agg #[.string mt, .bool mk, .int .i64 md, .int .i64 ln, .int .i64 hv, .int .i64 fr, .int .i64 wh, .int .i64 er, kv, .string tn, .bool kp], .agg #[.string mt2, .bool mk2, .int .i64 md2, .int .i64 ln2, .int .i64 hv2, .int .i64 fr2, .int .i64 wh2, .int .i64 er2, kv2, .string tn2, .bool kp2], .agg #[.string mt3, .bool mk3, .int .i64 md3, .int .i64 ln3, .int .i64 hv3, .int .i64 fr3, .int .i64 wh3, .int .i64 er3, kv3, .string tn3, .bool kp3]] w (BoolOk true w) := by
  obtain ⟨A, c, rfl, hkc0, hc0⟩ := hr.form
  have HR0 := hide hr
  obtain ⟨A2, c2, rfl, hkc02, hc02⟩ := hr2.form
  have HR20 := hide hr2
  obtain ⟨A3, c3, rfl, hkc03, hc03⟩ := hr3.form
  have HR30 := hide hr3
  clear hr hr2 hr3
  have HT := hide hT
  clear hT
  go_enter Tryd.func5, Tryd.ntmps5
  go_wp2_with fail
  obtain ⟨w1, hw1⟩ : ∃ w1 : World, w1 = (((w).alloc (.cells #[.string mt, .bool mk, .int .i64 md, .int .i64 ln, .int .i64 hv, .int .i64 fr, .int .i64 wh, .int .i64 er, .slice A ks.length c, .string tn, .bool kp] 26)).alloc (.cells #[.string mt2, .bool mk2, .int .i64 md2, .int .i64 ln2, .int .i64 hv2, .int .i64 fr2, .int .i64 wh2, .int .i64 er2, .slice A2 ks2.length c2, .string tn2, .bool kp2] 26)).alloc (.cells #[.string mt3, .bool mk3, .int .i64 md3, .int .i64 ln3, .int .i64 hv3, .int .i64 fr3, .int .i64 wh3, .int .i64 er3, .slice A3 ks3.length c3, .string tn3, .bool kp3] 26) := ⟨_, rfl⟩
  rw [← hw1]
  have hB1 : Below w.heap.size w w1 := by rw [hw1]; exact ((((Below.refl _ _).alloc (Nat.le_refl _) _).alloc (by simp; try omega) _).alloc (by simp; try omega) _)
  have T : Blk w1 (w.heap.size) 26 #[.string mt, .bool mk, .int .i64 md, .int .i64 ln, .int .i64 hv, .int .i64 fr, .int .i64 wh, .int .i64 er, .slice A ks.length c, .string tn, .bool kp] := by rw [hw1]; exact (((Blk.new _ _ _).alloc _).alloc _)
  have U : Blk w1 (w.heap.size + 1) 26 #[.string mt2, .bool mk2, .int .i64 md2, .int .i64 ln2, .int .i64 hv2, .int .i64 fr2, .int .i64 wh2, .int .i64 er2, .slice A2 ks2.length c2, .string tn2, .bool kp2] := by rw [hw1]; exact ((Blk.new' (by simp)).alloc _)
  have V : Blk w1 (w.heap.size + 2) 26 #[.string mt3, .bool mk3, .int .i64 md3, .int .i64 ln3, .int .i64 hv3, .int .i64 fr3, .int .i64 wh3, .int .i64 er3, .slice A3 ks3.length c3, .string tn3, .bool kp3] := by rw [hw1]; exact (Blk.new' (by simp))
  have HR1 := hide ((HR0.out.below hB1).mono hB1.size)
  have HR21 := hide ((HR20.out.below hB1).mono hB1.size)
  have HR31 := hide ((HR30.out.below hB1).mono hB1.size)
  clear hw1
  have cT := T.cell
  have cU := U.cell
  have cV := V.cell
  refine (wakes_any _ (HT.out.below hB1)).mono ?_
  rintro e w2 ⟨rfl, hb2⟩
  have hB2 := hB1.trans (hb2.mono hB1.size)
  replace T := T.below hb2 T.lt
  replace U := U.below hb2 U.lt
  replace V := V.below hb2 V.lt
  replace HR1 := hide ((HR1.out.below hb2).mono hb2.size)
  replace HR21 := hide ((HR21.out.below hb2).mono hb2.size)
  replace HR31 := hide ((HR31.out.below hb2).mono hb2.size)
  clear cT cU cV hb2
  have cT := T.cell
  have cU := U.cell
  have cV := V.cell
  go_wp2_with fail
  refine (small_any mt mk md ln hv fr wh er _ tn kp ks _ hmt htn HR1.out).mono ?_
  rintro e w3 ⟨rfl, hb3⟩
  have hB3 := hB2.trans (hb3.mono hB2.size)
  replace T := T.below hb3 T.lt
  replace U := U.below hb3 U.lt
  replace V := V.below hb3 V.lt
  replace HR1 := hide ((HR1.out.below hb3).mono hb3.size)
  replace HR21 := hide ((HR21.out.below hb3).mono hb3.size)
  replace HR31 := hide ((HR31.out.below hb3).mono hb3.size)
  clear cT cU cV hb3
  have cT := T.cell
  have cU := U.cell
  have cV := V.cell
  cases q1 : smallB mt ks tn
  · go_wp2_with fail
    go_ret
    exact ⟨rfl, hB3⟩
  · clear q1
    go_wp2_with fail
    refine (small_any mt2 mk2 md2 ln2 hv2 fr2 wh2 er2 _ tn2 kp2 ks2 _ hmt2 htn2 HR21.out).mono ?_
    rintro e w4 ⟨rfl, hb4⟩
    have hB4 := hB3.trans (hb4.mono hB3.size)
    replace T := T.below hb4 T.lt
    replace U := U.below hb4 U.lt
    replace V := V.below hb4 V.lt
    replace HR1 := hide ((HR1.out.below hb4).mono hb4.size)
    replace HR21 := hide ((HR21.out.below hb4).mono hb4.size)
    replace HR31 := hide ((HR31.out.below hb4).mono hb4.size)
    clear cT cU cV hb4
    have cT := T.cell
    have cU := U.cell
    have cV := V.cell
    cases q2 : smallB mt2 ks2 tn2
    · go_wp2_with fail
      go_ret
      exact ⟨rfl, hB4⟩
    · clear q2
      go_wp2_with fail
      refine (small_any mt3 mk3 md3 ln3 hv3 fr3 wh3 er3 _ tn3 kp3 ks3 _ hmt3 htn3 HR31.out).mono ?_
      rintro e w5 ⟨rfl, hb5⟩
      have hB5 := hB4.trans (hb5.mono hB4.size)
      replace T := T.below hb5 T.lt
      replace U := U.below hb5 U.lt
      replace V := V.below hb5 V.lt
      replace HR1 := hide ((HR1.out.below hb5).mono hb5.size)
      replace HR21 := hide ((HR21.out.below hb5).mono hb5.size)
      replace HR31 := hide ((HR31.out.below hb5).mono hb5.size)
      clear cT cU cV hb5
      have cT := T.cell
      have cU := U.cell
      have cV := V.cell
      cases q3 : smallB mt3 ks3 tn3
      · go_wp2_with fail
        go_ret
        exact ⟨rfl, hB5⟩
      · clear q3
        go_wp2_with fail
        refine (follows_any mt mk md ln hv fr wh er _ tn kp mt2 mk2 md2 ln2 hv2 fr2 wh2 er2 _ tn2 kp2 ks ks2 _ hmt htn HR1.out hmt2 htn2 HR21.out).mono ?_
        rintro e w6 ⟨rfl, hb6⟩
        have hB6 := hB5.trans (hb6.mono hB5.size)
        replace T := T.below hb6 T.lt
        replace U := U.below hb6 U.lt
        replace V := V.below hb6 V.lt
        replace HR1 := hide ((HR1.out.below hb6).mono hb6.size)
        replace HR21 := hide ((HR21.out.below hb6).mono hb6.size)
        replace HR31 := hide ((HR31.out.below hb6).mono hb6.size)
        clear cT cU cV hb6
        have cT := T.cell
        have cU := U.cell
        have cV := V.cell
        cases q4 : followsB mt mk md ln hv fr wh er ks tn mt2 mk2 md2 ln2 hv2 fr2 wh2 er2 ks2 tn2
        · obtain ⟨mo, hmo⟩ : ∃ b, metaOk mt mk md ln hv fr wh er ks tn = b := ⟨_, rfl⟩
          obtain ⟨jo, hjo⟩ : ∃ b, joinsB mt mk = b := ⟨_, rfl⟩
          have HFA := hide (fun (kv ku : Value) (W : World) (h : RdStrs W W.heap.size kv ks) (h2 : RdStrs W W.heap.size ku ks) => (follows_any mt mk md ln hv fr wh er kv tn kp mt mk md ln hv fr wh er ku tn kp ks ks W hmt htn h hmt htn h2 : Calls Tryd.prog 16 _ _ _))
          rw [follows_self, hmo, hjo] at HFA
          have HRR := hide (fun (kv : Value) (W : World) (h : RdStrs W W.heap.size kv ks) => (rmeta_right mt mk md ln hv fr wh er kv tn kp ks W hmt htn h : Calls Tryd.prog 10 _ _ _))
          rw [hmo] at HRR
          have HJ := hide (fun (kv : Value) (W : World) => (rjoins_any mt mk md ln hv fr wh er kv tn kp W hmt : Calls Tryd.prog 12 _ _ _))
          rw [hjo] at HJ
          clear hmo hjo
          cases mo <;> cases jo
          all_goals simp only [Bool.true_and, Bool.and_true, Bool.false_and, Bool.and_false, Bool.and_self] at HFA
          all_goals (go_upto_region 7 with fail; have qT : ∀ (x : Bel w6.heap.size w6) i, x.w.cell? ⟨w.heap.size, i, none⟩ = (#[.string mt, .bool mk, .int .i64 md, .int .i64 ln, .int .i64 hv, .int .i64 fr, .int .i64 wh, .int .i64 er, .slice A ks.length c, .string tn, .bool kp] : Array Value)[i]? := fun x i => (T.below x.h T.lt).cell i; have qU : ∀ (x : Bel w6.heap.size w6) i, x.w.cell? ⟨w.heap.size + 1, i, none⟩ = (#[.string mt2, .bool mk2, .int .i64 md2, .int .i64 ln2, .int .i64 hv2, .int .i64 fr2, .int .i64 wh2, .int .i64 er2, .slice A2 ks2.length c2, .string tn2, .bool kp2] : Array Value)[i]? := fun x i => (U.below x.h U.lt).cell i; have qV : ∀ (x : Bel w6.heap.size w6) i, x.w.cell? ⟨w.heap.size + 2, i, none⟩ = (#[.string mt3, .bool mk3, .int .i64 md3, .int .i64 ln3, .int .i64 hv3, .int .i64 fr3, .int .i64 wh3, .int .i64 er3, .slice A3 ks3.length c3, .string tn3, .bool kp3] : Array Value)[i]? := fun x i => (V.below x.h V.lt).cell i; have uHR := hide (show ∀ x : Bel w6.heap.size w6, RdStrs x.w x.w.heap.size (.slice A ks.length c) ks from fun x => (HR1.out.below x.h).mono x.h.size); have uHR2 := hide (show ∀ x : Bel w6.heap.size w6, RdStrs x.w x.w.heap.size (.slice A2 ks2.length c2) ks2 from fun x => (HR21.out.below x.h).mono x.h.size); have uHR3 := hide (show ∀ x : Bel w6.heap.size w6, RdStrs x.w x.w.heap.size (.slice A3 ks3.length c3) ks3 from fun x => (HR31.out.below x.h).mono x.h.size); clear cT cU cV; refine wp_region_bel w6.heap.size (by kernel_rfl) (by kernel_rfl) ?_; (repeat (go_big_quiet_step ((first | (go_at_call 16; exact bel_call (Nat.le_refl _) (HFA.out _ _ _ (uHR.out _) (uHR.out _))) | (go_at_call 10; exact bel_call (Nat.le_refl _) (HRR.out _ _ (uHR.out _))) | (go_at_call 12; exact bel_call (Nat.le_refl _) (HJ.out _ _)))))); refine wpQuiet_nil ?_; rintro w9 ⟨⟨_, hb9⟩, rfl⟩; go_wp2; go_ret; exact ⟨rfl, hB6.trans (hb9.mono hB6.size)⟩)
        · have Q4 := hide q4
          clear q4
          go_wp2_with fail
          refine (follows_any mt2 mk2 md2 ln2 hv2 fr2 wh2 er2 _ tn2 kp2 mt3 mk3 md3 ln3 hv3 fr3 wh3 er3 _ tn3 kp3 ks2 ks3 _ hmt2 htn2 HR21.out hmt3 htn3 HR31.out).mono ?_
          rintro e w7 ⟨rfl, hb7⟩
          have hB7 := hB6.trans (hb7.mono hB6.size)
          replace T := T.below hb7 T.lt
          replace U := U.below hb7 U.lt
          replace V := V.below hb7 V.lt
          replace HR1 := hide ((HR1.out.below hb7).mono hb7.size)
          replace HR21 := hide ((HR21.out.below hb7).mono hb7.size)
          replace HR31 := hide ((HR31.out.below hb7).mono hb7.size)
          clear cT cU cV hb7
          have cT := T.cell
          have cU := U.cell
          have cV := V.cell
          cases q5 : followsB mt2 mk2 md2 ln2 hv2 fr2 wh2 er2 ks2 tn2 mt3 mk3 md3 ln3 hv3 fr3 wh3 er3 ks3 tn3
          · obtain ⟨mo, hmo⟩ : ∃ b, metaOk mt mk md ln hv fr wh er ks tn = b := ⟨_, rfl⟩
            obtain ⟨jo, hjo⟩ : ∃ b, joinsB mt mk = b := ⟨_, rfl⟩
            have HFA := hide (fun (kv ku : Value) (W : World) (h : RdStrs W W.heap.size kv ks) (h2 : RdStrs W W.heap.size ku ks) => (follows_any mt mk md ln hv fr wh er kv tn kp mt mk md ln hv fr wh er ku tn kp ks ks W hmt htn h hmt htn h2 : Calls Tryd.prog 16 _ _ _))
            rw [follows_self, hmo, hjo] at HFA
            have HRR := hide (fun (kv : Value) (W : World) (h : RdStrs W W.heap.size kv ks) => (rmeta_right mt mk md ln hv fr wh er kv tn kp ks W hmt htn h : Calls Tryd.prog 10 _ _ _))
            rw [hmo] at HRR
            have HJ := hide (fun (kv : Value) (W : World) => (rjoins_any mt mk md ln hv fr wh er kv tn kp W hmt : Calls Tryd.prog 12 _ _ _))
            rw [hjo] at HJ
            clear hmo hjo
            cases mo <;> cases jo
            all_goals simp only [Bool.true_and, Bool.and_true, Bool.false_and, Bool.and_false, Bool.and_self] at HFA
            all_goals (go_upto_region 7 with fail; have qT : ∀ (x : Bel w7.heap.size w7) i, x.w.cell? ⟨w.heap.size, i, none⟩ = (#[.string mt, .bool mk, .int .i64 md, .int .i64 ln, .int .i64 hv, .int .i64 fr, .int .i64 wh, .int .i64 er, .slice A ks.length c, .string tn, .bool kp] : Array Value)[i]? := fun x i => (T.below x.h T.lt).cell i; have qU : ∀ (x : Bel w7.heap.size w7) i, x.w.cell? ⟨w.heap.size + 1, i, none⟩ = (#[.string mt2, .bool mk2, .int .i64 md2, .int .i64 ln2, .int .i64 hv2, .int .i64 fr2, .int .i64 wh2, .int .i64 er2, .slice A2 ks2.length c2, .string tn2, .bool kp2] : Array Value)[i]? := fun x i => (U.below x.h U.lt).cell i; have qV : ∀ (x : Bel w7.heap.size w7) i, x.w.cell? ⟨w.heap.size + 2, i, none⟩ = (#[.string mt3, .bool mk3, .int .i64 md3, .int .i64 ln3, .int .i64 hv3, .int .i64 fr3, .int .i64 wh3, .int .i64 er3, .slice A3 ks3.length c3, .string tn3, .bool kp3] : Array Value)[i]? := fun x i => (V.below x.h V.lt).cell i; have uHR := hide (show ∀ x : Bel w7.heap.size w7, RdStrs x.w x.w.heap.size (.slice A ks.length c) ks from fun x => (HR1.out.below x.h).mono x.h.size); have uHR2 := hide (show ∀ x : Bel w7.heap.size w7, RdStrs x.w x.w.heap.size (.slice A2 ks2.length c2) ks2 from fun x => (HR21.out.below x.h).mono x.h.size); have uHR3 := hide (show ∀ x : Bel w7.heap.size w7, RdStrs x.w x.w.heap.size (.slice A3 ks3.length c3) ks3 from fun x => (HR31.out.below x.h).mono x.h.size); clear cT cU cV; refine wp_region_bel w7.heap.size (by kernel_rfl) (by kernel_rfl) ?_; (repeat (go_big_quiet_step ((first | (go_at_call 16; exact bel_call (Nat.le_refl _) (HFA.out _ _ _ (uHR.out _) (uHR.out _))) | (go_at_call 10; exact bel_call (Nat.le_refl _) (HRR.out _ _ (uHR.out _))) | (go_at_call 12; exact bel_call (Nat.le_refl _) (HJ.out _ _)))))); refine wpQuiet_nil ?_; rintro w9 ⟨⟨_, hb9⟩, rfl⟩; go_wp2; go_ret; exact ⟨rfl, hB7.trans (hb9.mono hB7.size)⟩)
          · have Q5 := hide q5
            clear q5
            go_wp2_with fail
            refine (follows_any mt mk md ln hv fr wh er _ tn kp mt3 mk3 md3 ln3 hv3 fr3 wh3 er3 _ tn3 kp3 ks ks3 _ hmt htn HR1.out hmt3 htn3 HR31.out).mono ?_
            rintro e w8 ⟨rfl, hb8⟩
            have hB8 := hB7.trans (hb8.mono hB7.size)
            replace T := T.below hb8 T.lt
            replace U := U.below hb8 U.lt
            replace V := V.below hb8 V.lt
            replace HR1 := hide ((HR1.out.below hb8).mono hb8.size)
            replace HR21 := hide ((HR21.out.below hb8).mono hb8.size)
            replace HR31 := hide ((HR31.out.below hb8).mono hb8.size)
            clear cT cU cV hb8
            have cT := T.cell
            have cU := U.cell
            have cV := V.cell
            rw [follows_trans Q4.out Q5.out]
            obtain ⟨mo, hmo⟩ : ∃ b, metaOk mt mk md ln hv fr wh er ks tn = b := ⟨_, rfl⟩
            obtain ⟨jo, hjo⟩ : ∃ b, joinsB mt mk = b := ⟨_, rfl⟩
            have HFA := hide (fun (kv ku : Value) (W : World) (h : RdStrs W W.heap.size kv ks) (h2 : RdStrs W W.heap.size ku ks) => (follows_any mt mk md ln hv fr wh er kv tn kp mt mk md ln hv fr wh er ku tn kp ks ks W hmt htn h hmt htn h2 : Calls Tryd.prog 16 _ _ _))
            rw [follows_self, hmo, hjo] at HFA
            have HRR := hide (fun (kv : Value) (W : World) (h : RdStrs W W.heap.size kv ks) => (rmeta_right mt mk md ln hv fr wh er kv tn kp ks W hmt htn h : Calls Tryd.prog 10 _ _ _))
            rw [hmo] at HRR
            have HJ := hide (fun (kv : Value) (W : World) => (rjoins_any mt mk md ln hv fr wh er kv tn kp W hmt : Calls Tryd.prog 12 _ _ _))
            rw [hjo] at HJ
            clear hmo hjo
            cases mo <;> cases jo
            all_goals simp only [Bool.true_and, Bool.and_true, Bool.false_and, Bool.and_false, Bool.and_self] at HFA
            all_goals (go_upto_region 7 with fail; have qT : ∀ (x : Bel w8.heap.size w8) i, x.w.cell? ⟨w.heap.size, i, none⟩ = (#[.string mt, .bool mk, .int .i64 md, .int .i64 ln, .int .i64 hv, .int .i64 fr, .int .i64 wh, .int .i64 er, .slice A ks.length c, .string tn, .bool kp] : Array Value)[i]? := fun x i => (T.below x.h T.lt).cell i; have qU : ∀ (x : Bel w8.heap.size w8) i, x.w.cell? ⟨w.heap.size + 1, i, none⟩ = (#[.string mt2, .bool mk2, .int .i64 md2, .int .i64 ln2, .int .i64 hv2, .int .i64 fr2, .int .i64 wh2, .int .i64 er2, .slice A2 ks2.length c2, .string tn2, .bool kp2] : Array Value)[i]? := fun x i => (U.below x.h U.lt).cell i; have qV : ∀ (x : Bel w8.heap.size w8) i, x.w.cell? ⟨w.heap.size + 2, i, none⟩ = (#[.string mt3, .bool mk3, .int .i64 md3, .int .i64 ln3, .int .i64 hv3, .int .i64 fr3, .int .i64 wh3, .int .i64 er3, .slice A3 ks3.length c3, .string tn3, .bool kp3] : Array Value)[i]? := fun x i => (V.below x.h V.lt).cell i; have uHR := hide (show ∀ x : Bel w8.heap.size w8, RdStrs x.w x.w.heap.size (.slice A ks.length c) ks from fun x => (HR1.out.below x.h).mono x.h.size); have uHR2 := hide (show ∀ x : Bel w8.heap.size w8, RdStrs x.w x.w.heap.size (.slice A2 ks2.length c2) ks2 from fun x => (HR21.out.below x.h).mono x.h.size); have uHR3 := hide (show ∀ x : Bel w8.heap.size w8, RdStrs x.w x.w.heap.size (.slice A3 ks3.length c3) ks3 from fun x => (HR31.out.below x.h).mono x.h.size); clear cT cU cV; refine wp_region_bel w8.heap.size (by kernel_rfl) (by kernel_rfl) ?_; (repeat (go_big_quiet_step ((first | (go_at_call 16; exact bel_call (Nat.le_refl _) (HFA.out _ _ _ (uHR.out _) (uHR.out _))) | (go_at_call 10; exact bel_call (Nat.le_refl _) (HRR.out _ _ (uHR.out _))) | (go_at_call 12; exact bel_call (Nat.le_refl _) (HJ.out _ _)))))); refine wpQuiet_nil ?_; rintro w9 ⟨⟨_, hb9⟩, rfl⟩; go_wp2; go_ret; exact ⟨rfl, hB8.trans (hb9.mono hB8.size)⟩)

theorem ps : ∀ t ∈ Tryd.f5.params.toList, Tryd.prog.readableRec t = true ∧ t < Tryd.prog.types.size := by
  rw [Tryd.params5]
  intro t ht
  simp at ht
  subst ht
  all_goals exact ⟨by kernel_rfl, of_decide_eq_true (by kernel_rfl)⟩

set_option maxRecDepth 100000 in
theorem lifted (os : Os) (started : os.Started) (H : Type) (enc : TypeId × Value → H) :
    ReturnsInHanded {} Tryd.checked os 5 .any (fun w args => (Rows.metaChainSpec.pre enc Tryd.prog Tryd.f5 [] false w args ∧ laidMetH Tryd.prog laidL w) ∧ sizedMet enc Tryd.prog Tryd.f5 (OpenSpec.ofChange Rows.metaChainSpec) false w args) (Rows.metaChainSpec.post enc Tryd.prog Tryd.f5 false true false false) := by
  refine returnsInHanded_of_change_and (C := Tryd.checked) (X := fun w _ => laidMetH Tryd.prog laidL w) (fun _ _ _ hh h => h.of_heap hh) law_own started (by kernel_rfl) Tryd.func5
    (ChangeSpec.witness_shaped (enc := enc) (C := Tryd.checked) (os := os) (X := fun w _ => laidMetH Tryd.prog laidL w) false (World.doorLaid Tryd.prog 400 os) #[.agg #[.string ByteArray.empty, .bool false, .int .i64 0, .int .i64 0, .int .i64 0, .int .i64 0, .int .i64 0, .int .i64 0, .slice none 0 0, .string ByteArray.empty, .bool false], .agg #[.string ByteArray.empty, .bool false, .int .i64 0, .int .i64 0, .int .i64 0, .int .i64 0, .int .i64 0, .int .i64 0, .slice none 0 0, .string ByteArray.empty, .bool false], .agg #[.string ByteArray.empty, .bool false, .int .i64 0, .int .i64 0, .int .i64 0, .int .i64 0, .int .i64 0, .int .i64 0, .slice none 0 0, .string ByteArray.empty, .bool false]] 8 rfl (World.shaped_of_RefB (by kernel_rfl) (by kernel_rfl)) (by kernel_rfl) (by kernel_rfl) (by kernel_rfl) (door_met os _)) ?_
  intro W base args ds gs before hval0 hW _ hsz hL _
  have hval : ∀ (j : Nat) t v, Tryd.f5.params[j]? = some t → args[j]? = some v → Value.okWide Tryd.prog W .any base t v := hval0
  have hW' := hW
  have hlt : ∀ p ∈ before, p.block < W.heap.size := fun p hp => hW.lt p hp
  obtain ⟨p, q, hA0, hV, rfl, hfz, hnd⟩ := hW
  have hA : DataW.TrodAll enc Tryd.prog W 0 (fun _ => true) true Tryd.f5.params.toList args.toList ds p := hA0
  rw [Tryd.params5] at hA hval
  obtain ⟨v0, vs0, d0, ds0, p0, q0, hargs, rfl, rfl, h0, r0⟩ := trodAll_cons hA
  obtain ⟨v1, vs1, d1, ds1, p1, q1, rfl, rfl, rfl, h1, r1⟩ := trodAll_cons r0
  obtain ⟨v2, vs2, d2, ds2, p2, q2, rfl, rfl, rfl, h2, r2⟩ := trodAll_cons r1
  obtain ⟨rfl, rfl, rfl⟩ := trodAll_nil r2
  obtain rfl : args = #[v0, v1, v2] := by cases args; simp_all
  obtain ⟨rfl, rfl⟩ := trodVars_none hV
  obtain ⟨cs0, fu0, x0, rfl, t0⟩ := open_struct Tryd.underlying26 (hval 0 26 v0 rfl rfl) h0
  obtain ⟨mt, mk, md, ln, hv, fr, wh, er, kv, tn, kp, ks, rfl, hmt, htn, hr⟩ := open_meta t0
  obtain ⟨cs1, fu1, x1, rfl, t1⟩ := open_struct Tryd.underlying26 (hval 1 26 v1 rfl rfl) h1
  obtain ⟨mt2, mk2, md2, ln2, hv2, fr2, wh2, er2, kv2, tn2, kp2, ks2, rfl, hmt2, htn2, hr2⟩ := open_meta t1
  obtain ⟨cs2, fu2, x2, rfl, t2⟩ := open_struct Tryd.underlying26 (hval 2 26 v2 rfl rfl) h2
  obtain ⟨mt3, mk3, md3, ln3, hv3, fr3, wh3, er3, kv3, tn3, kp3, ks3, rfl, hmt3, htn3, hr3⟩ := open_meta t2
  clear hA0 hval0
  refine (walk mt mk md ln hv fr wh er _ tn kp mt2 mk2 md2 ln2 hv2 fr2 wh2 er2 _ tn2 kp2 mt3 mk3 md3 ln3 hv3 fr3 wh3 er3 _ tn3 kp3 ks ks2 ks3 W (tab_of_laid hL) hmt htn hr hmt2 htn2 hr2 hmt3 htn3 hr3).mono fun e W' ⟨he, hb⟩ => ?_
  subst he
  exact ⟨_, rfl, law_close hW' rfl rfl rfl ps hb⟩

theorem row : Rows.MetaChainSaid :=
  OpenClaim.holds_of_wide 5 Tryd.f5 rfl rfl rfl rfl rfl rfl rfl ⟨rfl, rfl, rfl, rfl, rfl⟩ rfl rfl rfl rfl rfl (by kernel_rfl) Tryd.func5 (by kernel_rfl)
    (of_decide_eq_true (by kernel_rfl)) (by unfold Func.isWrapper; first | (rw [if_pos (by decide +kernel)]; kernel_rfl) | (rw [if_neg (by decide +kernel)]; exact ⟨rfl, rfl⟩))
    (fun os started H enc _ => lifted os started H enc)
theorem proved : Rows.MetaChainCardSaid :=
  Claim7.holds_tied_plain_at .later [] [.data, .data, .data] true (true, "b4a9c889a27dbc13550ee604671a7a5c034765fb2c47d86a7d1c64ca3948f54b") false
    row (fun _ h => by cases h) (by kernel_rfl) (fun _ h => by cases h) metaChain_row_tie rfl ⟨rfl, rfl⟩ (by kernel_rfl) rfl
    (fun f fn hf hfn => by
      obtain rfl : f = 5 := Option.some.inj ((show Tryd.prog.funcNamed "mandoline/mandolinelaw14.MetaChain" = some 5 by kernel_rfl).symm.trans hf) |>.symm
      obtain rfl : fn = Tryd.f5 := (Option.some.inj (Tryd.func5.symm.trans hfn)).symm
      exact ⟨by kernel_rfl, fun j t ht => by
        rw [Tryd.params5] at ht
        have hm : t ∈ [26, 26, 26] := by simpa using Array.mem_of_getElem? ht
        have hall : ([26, 26, 26].all fun u => !Tryd.prog.wantsStandIn u) = true := by kernel_rfl
        exact (show Tryd.prog.wantsStandIn t = false by simpa using List.all_eq_true.1 hall t hm)⟩)
    (by kernel_rfl)
#print axioms proved

end Go.Proofs.YtmelcndflllgmaaDoor.metaChain
