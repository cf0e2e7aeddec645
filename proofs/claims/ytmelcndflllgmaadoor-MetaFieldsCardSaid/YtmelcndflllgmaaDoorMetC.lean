/-
  What may be joined, and known behind another: both sides.
-/
import Derived.Test.YtmelcndflllgmaaDoorMetaA
import Derived.Test.YtmelcndflllgmaaDoorMetaB
import Derived.Test.YtmelcndflllgmaaDoorTagC
namespace Go.Proofs.YtmelcndflllgmaaDoor
open Go.RowKit
set_option linter.unusedVariables false
set_option linter.unusedSimpArgs false

def joinsB (mt : ByteArray) (mk : Bool) : Bool := tagOk mt && !mk
/-- May be known behind it. -/
def followsB (mt : ByteArray) (mk : Bool) (md ln hv fr wh er : Int) (ks : List ByteArray) (tn : ByteArray) (mt2 : ByteArray) (mk2 : Bool) (md2 ln2 hv2 fr2 wh2 er2 : Int) (ks2 : List ByteArray) (tn2 : ByteArray) : Bool :=
  metaOk mt mk md ln hv fr wh er ks tn && (metaOk mt2 mk2 md2 ln2 hv2 fr2 wh2 er2 ks2 tn2 && (joinsB mt mk && (strongB (mt, mk) (mt2, mk2) && ((md == md2) && (if ln = -1 then decide (hv ≤ hv2) else (ln == ln2))))))

set_option maxRecDepth 100000 in
set_option maxHeartbeats 2000000 in
theorem joins_any (mt : ByteArray) (mk : Bool) (md ln hv fr wh er : Int) (kv : Value) (tn : ByteArray) (kp : Bool) (w : World) (hmt : mt.size ≤ 9223372036854775807) : Calls Tryd.prog 11 #[.agg #[.string mt, .bool mk, .int .i64 md, .int .i64 ln, .int .i64 hv, .int .i64 fr, .int .i64 wh, .int .i64 er, kv, .string tn, .bool kp]] w (BoolOk (joinsB mt mk) w) := by
  go_enter Tryd.func11, Tryd.ntmps11
  go_wp2_with fail
  obtain ⟨w1, hw1⟩ : ∃ w1 : World, w1 = (w).alloc (.cells #[.string mt, .bool mk, .int .i64 md, .int .i64 ln, .int .i64 hv, .int .i64 fr, .int .i64 wh, .int .i64 er, kv, .string tn, .bool kp] 26) := ⟨_, rfl⟩
  rw [← hw1]
  have hB1 : Below w.heap.size w w1 := by rw [hw1]; exact ((Below.refl _ _).alloc (Nat.le_refl _) _)
  have T : Blk w1 (w.heap.size) 26 #[.string mt, .bool mk, .int .i64 md, .int .i64 ln, .int .i64 hv, .int .i64 fr, .int .i64 wh, .int .i64 er, kv, .string tn, .bool kp] := by rw [hw1]; exact (Blk.new _ _ _)
  clear hw1
  have cT := T.cell
  refine (tag_right mt mk _ hmt).mono ?_
  rintro e w2 ⟨rfl, hb2⟩
  have hB2 := hB1.trans (hb2.mono hB1.size)
  replace T := T.below hb2 T.lt
  clear cT hb2
  have cT := T.cell
  cases hq : tagOk mt
  · have HQ := hide hq
    clear hq
    go_wp2_with fail
    go_ret
    exact ⟨ret_bool (by unfold joinsB; rw [HQ.out]; rfl), hB2⟩
  · have HQ := hide hq
    clear hq
    go_wp2_with fail
    go_ret
    exact ⟨ret_bool (by unfold joinsB; rw [HQ.out]; rfl), hB2⟩

set_option maxRecDepth 100000 in
set_option maxHeartbeats 2000000 in
theorem rjoins_any (mt : ByteArray) (mk : Bool) (md ln hv fr wh er : Int) (kv : Value) (tn : ByteArray) (kp : Bool) (w : World) (hmt : mt.size ≤ 9223372036854775807) : Calls Tryd.prog 12 #[.agg #[.string mt, .bool mk, .int .i64 md, .int .i64 ln, .int .i64 hv, .int .i64 fr, .int .i64 wh, .int .i64 er, kv, .string tn, .bool kp]] w (BoolOk (joinsB mt mk) w) := by
  go_enter Tryd.func12, Tryd.ntmps12
  go_wp2_with fail
  obtain ⟨w1, hw1⟩ : ∃ w1 : World, w1 = (w).alloc (.cells #[.string mt, .bool mk, .int .i64 md, .int .i64 ln, .int .i64 hv, .int .i64 fr, .int .i64 wh, .int .i64 er, kv, .string tn, .bool kp] 26) := ⟨_, rfl⟩
  rw [← hw1]
  have hB1 : Below w.heap.size w w1 := by rw [hw1]; exact ((Below.refl _ _).alloc (Nat.le_refl _) _)
  have T : Blk w1 (w.heap.size) 26 #[.string mt, .bool mk, .int .i64 md, .int .i64 ln, .int .i64 hv, .int .i64 fr, .int .i64 wh, .int .i64 er, kv, .string tn, .bool kp] := by rw [hw1]; exact (Blk.new _ _ _)
  clear hw1
  have cT := T.cell
  refine (rtag_right mt mk _ hmt).mono ?_
  rintro e w2 ⟨rfl, hb2⟩
  have hB2 := hB1.trans (hb2.mono hB1.size)
  replace T := T.below hb2 T.lt
  clear cT hb2
  have cT := T.cell
  cases hq : tagOk mt
  · have HQ := hide hq
    clear hq
    go_wp2_with fail
    go_ret
    exact ⟨ret_bool (by unfold joinsB; rw [HQ.out]; rfl), hB2⟩
  · have HQ := hide hq
    clear hq
    go_wp2_with fail
    go_ret
    exact ⟨ret_bool (by unfold joinsB; rw [HQ.out]; rfl), hB2⟩

theorem meta_nums_of {mt : ByteArray} {mk : Bool} {md ln hv fr wh er : Int} {ks : List ByteArray} {tn : ByteArray} (h : metaOk mt mk md ln hv fr wh er ks tn = true) : -1 ≤ md ∧ md ≤ 253402300799 ∧ -1 ≤ ln ∧ ln ≤ 1099511627776 ∧ 0 ≤ hv ∧ hv ≤ 1099511627776 ∧ (ln = -1 ∨ hv = ln) := by
  unfold metaOk at h
  simp only [Bool.and_eq_true] at h
  have := h.2.1
  unfold numsOk at this
  simpa only [decide_eq_true_eq] using this

set_option maxRecDepth 100000 in
set_option maxHeartbeats 8000000 in
theorem follows_any (mt : ByteArray) (mk : Bool) (md ln hv fr wh er : Int) (kv : Value) (tn : ByteArray) (kp : Bool) (mt2 : ByteArray) (mk2 : Bool) (md2 ln2 hv2 fr2 wh2 er2 : Int) (kv2 : Value) (tn2 : ByteArray) (kp2 : Bool) (ks ks2 : List ByteArray) (w : World) (hmt : mt.size ≤ 9223372036854775807) (htn : tn.size ≤ 9223372036854775807) (hr : RdStrs w w.heap.size kv ks) (hmt2 : mt2.size ≤ 9223372036854775807) (htn2 : tn2.size ≤ 9223372036854775807) (hr2 : RdStrs w w.heap.size kv2 ks2) : Calls Tryd.prog 16 #[.agg #[.string mt, .bool mk, .int .i64 md, .int .i64 ln, .int .i64 hv, .int .i64 fr, .int .i64 wh, .int .i64 er, kv, .string tn, .bool kp], .agg #[.string mt2, .bool mk2, .int .i64 md2, .int .i64 ln2, .int .i64 hv2, .int .i64 fr2, .int .i64 wh2, .int .i64 er2, kv2, .string tn2, .bool kp2]] w (BoolOk (followsB mt mk md ln hv fr wh er ks tn mt2 mk2 md2 ln2 hv2 fr2 wh2 er2 ks2 tn2) w) := by
  obtain ⟨A, c, rfl, hkc0, hc0⟩ := hr.form
  obtain ⟨A2, c2, rfl, hkc2, hc2⟩ := hr2.form
  have HR0 := hide hr
  have HU0 := hide hr2
  clear hr hr2
  go_enter Tryd.func16, Tryd.ntmps16
  go_wp2_with fail
  obtain ⟨w1, hw1⟩ : ∃ w1 : World, w1 = ((w).alloc (.cells #[.string mt, .bool mk, .int .i64 md, .int .i64 ln, .int .i64 hv, .int .i64 fr, .int .i64 wh, .int .i64 er, .slice A ks.length c, .string tn, .bool kp] 26)).alloc (.cells #[.string mt2, .bool mk2, .int .i64 md2, .int .i64 ln2, .int .i64 hv2, .int .i64 fr2, .int .i64 wh2, .int .i64 er2, .slice A2 ks2.length c2, .string tn2, .bool kp2] 26) := ⟨_, rfl⟩
  rw [← hw1]
  have hB1 : Below w.heap.size w w1 := by rw [hw1]; exact (((Below.refl _ _).alloc (Nat.le_refl _) _).alloc (by simp; try omega) _)
  have T : Blk w1 (w.heap.size) 26 #[.string mt, .bool mk, .int .i64 md, .int .i64 ln, .int .i64 hv, .int .i64 fr, .int .i64 wh, .int .i64 er, .slice A ks.length c, .string tn, .bool kp] := by rw [hw1]; exact ((Blk.new _ _ _).alloc _)
  have U : Blk w1 (w.heap.size + 1) 26 #[.string mt2, .bool mk2, .int .i64 md2, .int .i64 ln2, .int .i64 hv2, .int .i64 fr2, .int .i64 wh2, .int .i64 er2, .slice A2 ks2.length c2, .string tn2, .bool kp2] := by rw [hw1]; exact (Blk.new' (by simp))
  have HR1 := hide ((HR0.out.below hB1).mono hB1.size)
  have HU1 := hide ((HU0.out.below hB1).mono hB1.size)
  clear hw1
  have cT := T.cell
  have cU := U.cell
  refine (meta_right mt mk md ln hv fr wh er _ tn kp ks _ hmt htn HR1.out).mono ?_
  rintro e w2 ⟨rfl, hb2⟩
  have hB2 := hB1.trans (hb2.mono hB1.size)
  replace T := T.below hb2 T.lt
  replace U := U.below hb2 U.lt
  replace HR1 := hide ((HR1.out.below hb2).mono hb2.size)
  replace HU1 := hide ((HU1.out.below hb2).mono hb2.size)
  clear cT cU hb2
  have cT := T.cell
  have cU := U.cell
  cases q1 : metaOk mt mk md ln hv fr wh er ks tn
  · have Q1 := hide q1
    clear q1
    have hx := hide (show followsB mt mk md ln hv fr wh er ks tn mt2 mk2 md2 ln2 hv2 fr2 wh2 er2 ks2 tn2 = false by unfold followsB; simp [Q1.out])
    go_wp2_with fail
    go_ret
    exact ⟨ret_bool hx.out.symm, hB2⟩
  · have Q1 := hide q1
    clear q1
    go_wp2_with fail
    refine (meta_right mt2 mk2 md2 ln2 hv2 fr2 wh2 er2 _ tn2 kp2 ks2 _ hmt2 htn2 HU1.out).mono ?_
    rintro e w3 ⟨rfl, hb3⟩
    have hB3 := hB2.trans (hb3.mono hB2.size)
    replace T := T.below hb3 T.lt
    replace U := U.below hb3 U.lt
    replace HR1 := hide ((HR1.out.below hb3).mono hb3.size)
    replace HU1 := hide ((HU1.out.below hb3).mono hb3.size)
    clear cT cU hb3
    have cT := T.cell
    have cU := U.cell
    cases q2 : metaOk mt2 mk2 md2 ln2 hv2 fr2 wh2 er2 ks2 tn2
    · have Q2 := hide q2
      clear q2
      have hx := hide (show followsB mt mk md ln hv fr wh er ks tn mt2 mk2 md2 ln2 hv2 fr2 wh2 er2 ks2 tn2 = false by unfold followsB; simp [Q1.out, Q2.out])
      go_wp2_with fail
      go_ret
      exact ⟨ret_bool hx.out.symm, hB3⟩
    · have Q2 := hide q2
      clear q2
      go_wp2_with fail
      refine (joins_any mt mk md ln hv fr wh er _ tn kp _ hmt).mono ?_
      rintro e w4 ⟨rfl, hb4⟩
      have hB4 := hB3.trans (hb4.mono hB3.size)
      replace T := T.below hb4 T.lt
      replace U := U.below hb4 U.lt
      replace HR1 := hide ((HR1.out.below hb4).mono hb4.size)
      replace HU1 := hide ((HU1.out.below hb4).mono hb4.size)
      clear cT cU hb4
      have cT := T.cell
      have cU := U.cell
      cases q3 : joinsB mt mk
      · have Q3 := hide q3
        clear q3
        have hx := hide (show followsB mt mk md ln hv fr wh er ks tn mt2 mk2 md2 ln2 hv2 fr2 wh2 er2 ks2 tn2 = false by unfold followsB; simp [Q1.out, Q2.out, Q3.out])
        go_wp2_with fail
        go_ret
        exact ⟨ret_bool hx.out.symm, hB4⟩
      · have Q3 := hide q3
        clear q3
        go_wp2_with fail
        refine (tag_strong mt mt2 mk mk2 _ hmt hmt2).mono ?_
        rintro e w5 ⟨rfl, hb5⟩
        have hB5 := hB4.trans (hb5.mono hB4.size)
        replace T := T.below hb5 T.lt
        replace U := U.below hb5 U.lt
        replace HR1 := hide ((HR1.out.below hb5).mono hb5.size)
        replace HU1 := hide ((HU1.out.below hb5).mono hb5.size)
        clear cT cU hb5
        have cT := T.cell
        have cU := U.cell
        cases q4 : strongB (mt, mk) (mt2, mk2)
        · have Q4 := hide q4
          clear q4
          have hx := hide (show followsB mt mk md ln hv fr wh er ks tn mt2 mk2 md2 ln2 hv2 fr2 wh2 er2 ks2 tn2 = false by unfold followsB; simp [Q1.out, Q2.out, Q3.out, Q4.out])
          go_wp2_with fail
          go_ret
          exact ⟨ret_bool hx.out.symm, hB5⟩
        · have Q4 := hide q4
          clear q4
          by_cases n5 : md = md2
          · have d5 : (md == md2) = true := by simpa using n5
            have e5 : (md != md2) = false := by simpa using n5
            have N5 := hide d5
            clear n5
            by_cases n6 : ln = -1
            · have d6 : (ln == -1) = true := by simpa using n6
              have e6 : (ln != -1) = false := by simpa using n6
              have N6 := hide n6
              clear n6
              have hx := hide (show followsB mt mk md ln hv fr wh er ks tn mt2 mk2 md2 ln2 hv2 fr2 wh2 er2 ks2 tn2 = decide (hv ≤ hv2) by unfold followsB; rw [if_pos N6.out]; simp [Q1.out, Q2.out, Q3.out, Q4.out, N5.out])
              go_wp2_with fail
              go_ret
              exact ⟨ret_bool hx.out.symm, hB5⟩
            · have d6 : (ln == -1) = false := by simpa using n6
              have e6 : (ln != -1) = true := by simpa using n6
              have N6 := hide n6
              clear n6
              have hx := hide (show followsB mt mk md ln hv fr wh er ks tn mt2 mk2 md2 ln2 hv2 fr2 wh2 er2 ks2 tn2 = (ln == ln2) by unfold followsB; rw [if_neg N6.out]; simp [Q1.out, Q2.out, Q3.out, Q4.out, N5.out])
              go_wp2_with fail
              go_ret
              exact ⟨ret_bool hx.out.symm, hB5⟩
          · have d5 : (md == md2) = false := by simpa using n5
            have e5 : (md != md2) = true := by simpa using n5
            have N5 := hide d5
            clear n5
            have hx := hide (show followsB mt mk md ln hv fr wh er ks tn mt2 mk2 md2 ln2 hv2 fr2 wh2 er2 ks2 tn2 = false by unfold followsB; simp [Q1.out, Q2.out, Q3.out, Q4.out, N5.out])
            go_wp2_with fail
            go_ret
            exact ⟨ret_bool hx.out.symm, hB5⟩

set_option maxRecDepth 100000 in
set_option maxHeartbeats 8000000 in
theorem rfollows_any (mt : ByteArray) (mk : Bool) (md ln hv fr wh er : Int) (kv : Value) (tn : ByteArray) (kp : Bool) (mt2 : ByteArray) (mk2 : Bool) (md2 ln2 hv2 fr2 wh2 er2 : Int) (kv2 : Value) (tn2 : ByteArray) (kp2 : Bool) (ks ks2 : List ByteArray) (w : World) (hmt : mt.size ≤ 9223372036854775807) (htn : tn.size ≤ 9223372036854775807) (hr : RdStrs w w.heap.size kv ks) (hmt2 : mt2.size ≤ 9223372036854775807) (htn2 : tn2.size ≤ 9223372036854775807) (hr2 : RdStrs w w.heap.size kv2 ks2) : Calls Tryd.prog 17 #[.agg #[.string mt, .bool mk, .int .i64 md, .int .i64 ln, .int .i64 hv, .int .i64 fr, .int .i64 wh, .int .i64 er, kv, .string tn, .bool kp], .agg #[.string mt2, .bool mk2, .int .i64 md2, .int .i64 ln2, .int .i64 hv2, .int .i64 fr2, .int .i64 wh2, .int .i64 er2, kv2, .string tn2, .bool kp2]] w (BoolOk (followsB mt mk md ln hv fr wh er ks tn mt2 mk2 md2 ln2 hv2 fr2 wh2 er2 ks2 tn2) w) := by
  obtain ⟨A, c, rfl, hkc0, hc0⟩ := hr.form
  obtain ⟨A2, c2, rfl, hkc2, hc2⟩ := hr2.form
  have HR0 := hide hr
  have HU0 := hide hr2
  clear hr hr2
  go_enter Tryd.func17, Tryd.ntmps17
  go_wp2_with fail
  obtain ⟨w1, hw1⟩ : ∃ w1 : World, w1 = ((w).alloc (.cells #[.string mt, .bool mk, .int .i64 md, .int .i64 ln, .int .i64 hv, .int .i64 fr, .int .i64 wh, .int .i64 er, .slice A ks.length c, .string tn, .bool kp] 26)).alloc (.cells #[.string mt2, .bool mk2, .int .i64 md2, .int .i64 ln2, .int .i64 hv2, .int .i64 fr2, .int .i64 wh2, .int .i64 er2, .slice A2 ks2.length c2, .string tn2, .bool kp2] 26) := ⟨_, rfl⟩
  rw [← hw1]
  have hB1 : Below w.heap.size w w1 := by rw [hw1]; exact (((Below.refl _ _).alloc (Nat.le_refl _) _).alloc (by simp; try omega) _)
  have T : Blk w1 (w.heap.size) 26 #[.string mt, .bool mk, .int .i64 md, .int .i64 ln, .int .i64 hv, .int .i64 fr, .int .i64 wh, .int .i64 er, .slice A ks.length c, .string tn, .bool kp] := by rw [hw1]; exact ((Blk.new _ _ _).alloc _)
  have U : Blk w1 (w.heap.size + 1) 26 #[.string mt2, .bool mk2, .int .i64 md2, .int .i64 ln2, .int .i64 hv2, .int .i64 fr2, .int .i64 wh2, .int .i64 er2, .slice A2 ks2.length c2, .string tn2, .bool kp2] := by rw [hw1]; exact (Blk.new' (by simp))
  have HR1 := hide ((HR0.out.below hB1).mono hB1.size)
  have HU1 := hide ((HU0.out.below hB1).mono hB1.size)
  clear hw1
  have cT := T.cell
  have cU := U.cell
  refine (rmeta_right mt mk md ln hv fr wh er _ tn kp ks _ hmt htn HR1.out).mono ?_
  rintro e w2 ⟨rfl, hb2⟩
  have hB2 := hB1.trans (hb2.mono hB1.size)
  replace T := T.below hb2 T.lt
  replace U := U.below hb2 U.lt
  replace HR1 := hide ((HR1.out.below hb2).mono hb2.size)
  replace HU1 := hide ((HU1.out.below hb2).mono hb2.size)
  clear cT cU hb2
  have cT := T.cell
  have cU := U.cell
  cases q1 : metaOk mt mk md ln hv fr wh er ks tn
  · have Q1 := hide q1
    clear q1
    have hx := hide (show followsB mt mk md ln hv fr wh er ks tn mt2 mk2 md2 ln2 hv2 fr2 wh2 er2 ks2 tn2 = false by unfold followsB; simp [Q1.out])
    go_wp2_with fail
    go_ret
    exact ⟨ret_bool hx.out.symm, hB2⟩
  · have Q1 := hide q1
    clear q1
    go_wp2_with fail
    refine (rmeta_right mt2 mk2 md2 ln2 hv2 fr2 wh2 er2 _ tn2 kp2 ks2 _ hmt2 htn2 HU1.out).mono ?_
    rintro e w3 ⟨rfl, hb3⟩
    have hB3 := hB2.trans (hb3.mono hB2.size)
    replace T := T.below hb3 T.lt
    replace U := U.below hb3 U.lt
    replace HR1 := hide ((HR1.out.below hb3).mono hb3.size)
    replace HU1 := hide ((HU1.out.below hb3).mono hb3.size)
    clear cT cU hb3
    have cT := T.cell
    have cU := U.cell
    cases q2 : metaOk mt2 mk2 md2 ln2 hv2 fr2 wh2 er2 ks2 tn2
    · have Q2 := hide q2
      clear q2
      have hx := hide (show followsB mt mk md ln hv fr wh er ks tn mt2 mk2 md2 ln2 hv2 fr2 wh2 er2 ks2 tn2 = false by unfold followsB; simp [Q1.out, Q2.out])
      go_wp2_with fail
      go_ret
      exact ⟨ret_bool hx.out.symm, hB3⟩
    · have Q2 := hide q2
      clear q2
      go_wp2_with fail
      refine (rjoins_any mt mk md ln hv fr wh er _ tn kp _ hmt).mono ?_
      rintro e w4 ⟨rfl, hb4⟩
      have hB4 := hB3.trans (hb4.mono hB3.size)
      replace T := T.below hb4 T.lt
      replace U := U.below hb4 U.lt
      replace HR1 := hide ((HR1.out.below hb4).mono hb4.size)
      replace HU1 := hide ((HU1.out.below hb4).mono hb4.size)
      clear cT cU hb4
      have cT := T.cell
      have cU := U.cell
      cases q3 : joinsB mt mk
      · have Q3 := hide q3
        clear q3
        have hx := hide (show followsB mt mk md ln hv fr wh er ks tn mt2 mk2 md2 ln2 hv2 fr2 wh2 er2 ks2 tn2 = false by unfold followsB; simp [Q1.out, Q2.out, Q3.out])
        go_wp2_with fail
        go_ret
        exact ⟨ret_bool hx.out.symm, hB4⟩
      · have Q3 := hide q3
        clear q3
        go_wp2_with fail
        refine (rtag_strong mt mt2 mk mk2 _ hmt hmt2).mono ?_
        rintro e w5 ⟨rfl, hb5⟩
        have hB5 := hB4.trans (hb5.mono hB4.size)
        replace T := T.below hb5 T.lt
        replace U := U.below hb5 U.lt
        replace HR1 := hide ((HR1.out.below hb5).mono hb5.size)
        replace HU1 := hide ((HU1.out.below hb5).mono hb5.size)
        clear cT cU hb5
        have cT := T.cell
        have cU := U.cell
        cases q4 : strongB (mt, mk) (mt2, mk2)
        · have Q4 := hide q4
          clear q4
          have hx := hide (show followsB mt mk md ln hv fr wh er ks tn mt2 mk2 md2 ln2 hv2 fr2 wh2 er2 ks2 tn2 = false by unfold followsB; simp [Q1.out, Q2.out, Q3.out, Q4.out])
          go_wp2_with fail
          go_ret
          exact ⟨ret_bool hx.out.symm, hB5⟩
        · have Q4 := hide q4
          clear q4
          by_cases n5 : md = md2
          · have d5 : (md == md2) = true := by simpa using n5
            have e5 : (md != md2) = false := by simpa using n5
            have N5 := hide d5
            clear n5
            by_cases n6 : ln = -1
            · have d6 : decide (0 ≤ ln) = false := by rw [n6]; rfl
              have N6 := hide n6
              clear n6
              have hx := hide (show followsB mt mk md ln hv fr wh er ks tn mt2 mk2 md2 ln2 hv2 fr2 wh2 er2 ks2 tn2 = decide (hv ≤ hv2) by unfold followsB; rw [if_pos N6.out]; simp [Q1.out, Q2.out, Q3.out, Q4.out, N5.out])
              go_wp2_with fail
              go_ret
              exact ⟨ret_bool hx.out.symm, hB5⟩
            · have hge := (meta_nums_of Q1.out).2.2.1
              have d6 : decide (0 ≤ ln) = true := decide_eq_true (by omega)
              have N6 := hide n6
              clear n6 hge
              have hx := hide (show followsB mt mk md ln hv fr wh er ks tn mt2 mk2 md2 ln2 hv2 fr2 wh2 er2 ks2 tn2 = (ln == ln2) by unfold followsB; rw [if_neg N6.out]; simp [Q1.out, Q2.out, Q3.out, Q4.out, N5.out])
              go_wp2_with fail
              go_ret
              exact ⟨ret_bool hx.out.symm, hB5⟩
          · have d5 : (md == md2) = false := by simpa using n5
            have e5 : (md != md2) = true := by simpa using n5
            have N5 := hide d5
            clear n5
            have hx := hide (show followsB mt mk md ln hv fr wh er ks tn mt2 mk2 md2 ln2 hv2 fr2 wh2 er2 ks2 tn2 = false by unfold followsB; simp [Q1.out, Q2.out, Q3.out, Q4.out, N5.out])
            go_wp2_with fail
            go_ret
            exact ⟨ret_bool hx.out.symm, hB5⟩

end Go.Proofs.YtmelcndflllgmaaDoor
