/-
  Without conditions all goes, of whatever version, or of nothing; of nothing there nothing fails but by Match: for every request, version and bool.
-/
import Derived.Test.YtfbefjpajmigmaaCondF
import Derived.Test.YtfbefjpajmigmaaOpenC
import Derived.Test.YtfbefjpajmigmaaLift
import Derived.Test.YtfbefjpajmigmaaQuiet
import Derived.BigRegion
import Derived.ChangeAlike
import Derived.Deep.DeepCutAuto
import Derived.Deep.CutBlock
namespace Go.Proofs.Ytfbefjpajmigmaa.condNone
open Go.ChangeShapes Go.WideShapes Go.ChangeAt Go.RowKit Go.Deep
set_option linter.unusedVariables false

theorem form {w : World} {B : Nat} {v : Value} {ts : List Tag} (h : RdTags w B v ts) : ∃ A k, v = .slice A ts.length k := by
  obtain ⟨_, _, A, c, rfl, _⟩ := h; exact ⟨A, c, rfl⟩

set_option maxRecDepth 100000 in
set_option maxHeartbeats 4000000 in
theorem walk (hd : Bool) (ob : ByteArray) (sa : Option Addr) (sn sc : Nat) (m n : Value) (ts us : List Tag) (am an : Bool) (si un : Int) (rt : ByteArray) (rk : Bool) (mt : ByteArray) (mk : Bool) (md ln hv fr wh er : Int) (kv : Value) (tn : ByteArray) (kp : Bool) (th : Bool) (hr : rt.size ≤ 9223372036854775807) (hm : mt.size ≤ 9223372036854775807) (w : World) (r1 : RdTags w w.heap.size m ts) (r2 : RdTags w w.heap.size n us) :
    Calls Try.prog 13 #[.agg #[.bool hd, .string ob, .slice sa sn sc, m, n, .bool am, .bool an, .int .i64 si, .int .i64 un, .string rt, .bool rk], .agg #[.string mt, .bool mk, .int .i64 md, .int .i64 ln, .int .i64 hv, .int .i64 fr, .int .i64 wh, .int .i64 er, kv, .string tn, .bool kp], .bool th] w (TrueOk' w) := by
  obtain ⟨A1, k1, rfl⟩ := form r1
  obtain ⟨A2, k2, rfl⟩ := form r2
  go_enter Try.func13, Try.ntmps13
  go_wp2_with fail
  obtain ⟨W, hW⟩ : ∃ W : World, W = (w.alloc (.cells #[.bool hd, .string ob, .slice sa sn sc, .slice A1 ts.length k1, .slice A2 us.length k2, .bool am, .bool an, .int .i64 si, .int .i64 un, .string rt, .bool rk] 29)).alloc (.cells #[.string mt, .bool mk, .int .i64 md, .int .i64 ln, .int .i64 hv, .int .i64 fr, .int .i64 wh, .int .i64 er, kv, .string tn, .bool kp] 32) := ⟨_, rfl⟩
  rw [← hW]
  have hBW : Below w.heap.size w W := by rw [hW]; exact ((Below.refl _ _).alloc (Nat.le_refl _) _).alloc (by simp) _
  have B0 : Blk W w.heap.size 29 #[.bool hd, .string ob, .slice sa sn sc, .slice A1 ts.length k1, .slice A2 us.length k2, .bool am, .bool an, .int .i64 si, .int .i64 un, .string rt, .bool rk] := by rw [hW]; exact (Blk.new w _ _).alloc _
  have B1 : Blk W (w.heap.size + 1) 32 #[.string mt, .bool mk, .int .i64 md, .int .i64 ln, .int .i64 hv, .int .i64 fr, .int .i64 wh, .int .i64 er, kv, .string tn, .bool kp] := by rw [hW]; exact Blk.new' (by simp)
  have R1 := hide ((r1.below hBW).mono hBW.size)
  have R2 := hide ((r2.below hBW).mono hBW.size)
  clear hW r1 r2
  refine (few_any _ _ ts us am an si un rt rk _ R1.out R2.out).mono ?_
  rintro e w2 ⟨b, rfl, hb2⟩
  have C0 := (B0.below hb2 B0.lt)
  have C1 := (B1.below hb2 B1.lt)
  have a0 := C0.cell
  have a1 := C1.cell
  have hB2 : Below w.heap.size w w2 := hBW.trans (hb2.mono hBW.size)
  have S1 := hide ((R1.out.below hb2).mono hb2.size)
  have S2 := hide ((R2.out.below hb2).mono hb2.size)
  clear B0 B1 R1 R2 hb2 hBW
  cases b
  · go_wp2_with fail
    refine (awake8 _).mono ?_
    rintro e wz ⟨rfl, hbz⟩
    go_wp2
    go_ret
    exact ⟨rfl, hB2.trans (hbz.mono hB2.size)⟩
  · by_cases hs : 70 < (sn : Int)
    · go_wp2_with fail
      refine (awake8 _).mono ?_
      rintro e wz ⟨rfl, hbz⟩
      go_wp2
      go_ret
      exact ⟨rfl, hB2.trans (hbz.mono hB2.size)⟩
    · have key : (0 < (ts.length : Int) ∧ 0 < ts.length) ∨ (¬ 0 < (ts.length : Int) ∧ ¬ 0 < ts.length) := by omega
      rcases key with ⟨hi, hn⟩ | ⟨hi, hn⟩
      · have V1 := hide (show checkV sn ts us am an si un (rt, rk) (mt, mk) md ln false = 4 by simp [checkV, c1B, c2B, c3B, hn])
        go_wp2_with fail
        refine (check_any hd ob sa sn sc _ _ ts us am an si un rt rk mt mk md ln hv fr wh er kv tn kp false _ hm hr (S1.out) (S2.out)).mono ?_
        rintro e w3 ⟨rfl, hb3⟩
        rw [V1.out]
        have hB3 := hB2.trans (hb3.mono hB2.size)
        replace C0 := C0.below hb3 C0.lt
        replace C1 := C1.below hb3 C1.lt
        clear a0 a1 hb3 hn S1 S2
        have a0 := C0.cell
        have a1 := C1.cell
        go_wp2_with fail
        refine (cnone_any _).mono ?_
        rintro e w4 ⟨rfl, hb4⟩
        have hB4 := hB3.trans (hb4.mono hB3.size)
        replace C0 := C0.below hb4 C0.lt
        replace C1 := C1.below hb4 C1.lt
        clear a0 a1 hb4
        have a0 := C0.cell
        have a1 := C1.cell
        have f0 := C0.frozen
        have l0 := C0.lt
        have l1 := C1.lt
        go_upto_region 8 with fail
        obtain ⟨W, hW, D0, D1, hBW⟩ := lay_cond (y3 := .slice none 0 0) (y4 := .slice none 0 0) (y5 := .bool false) (y6 := .bool false) (y7 := .int .i64 (-1)) (y8 := .int .i64 (-1)) (y9 := .string ⟨#[]⟩) (y10 := .bool false) C0 C1 (by omega) hB4 (Nat.le_refl _)
        rw [← hW]
        clear a0 a1 f0 l0 l1 C0 C1
        have HW := hide hW
        clear hW
        have a0 := D0.cell
        have a1 := D1.cell
        have V2 := hide (show checkV sn [] [] false false (-1) (-1) (⟨#[]⟩, false) (mt, mk) md ln th = 1 by simp [checkV, c1B, c2B, c3B, someTag, ByteArray.toList_eq])
        go_wp2_with fail
        refine (check_any hd ob sa sn sc _ _ [] [] false false (-1) (-1) ⟨#[]⟩ false mt mk md ln hv fr wh er kv tn kp th _ hm (by decide) (RdTags.nil _ _) (RdTags.nil _ _)).mono ?_
        rintro e w5 ⟨rfl, hb5⟩
        rw [V2.out]
        have hB5 := hBW.trans (hb5.mono hBW.size)
        go_wp2_with fail
        refine (cnone_any _).mono ?_
        rintro e w6 ⟨rfl, hb6⟩
        have hB6 := hB5.trans (hb6.mono hB5.size)
        go_wp2_with fail
        refine (right_none _).mono ?_
        rintro e w7 ⟨rfl, hb7⟩
        have hB7 := hB6.trans (hb7.mono hB6.size)
        go_wp2_with fail
        refine (awake8 _).mono ?_
        rintro e wz ⟨rfl, hbz⟩
        go_wp2
        go_ret
        exact ⟨rfl, hB7.trans (hbz.mono hB7.size)⟩
      · cases am
        · have V1 := hide (show checkV sn ts us false an si un (rt, rk) (mt, mk) md ln false = 1 by simp [checkV, c1B, c2B, c3B, hn])
          go_wp2_with fail
          refine (check_any hd ob sa sn sc _ _ ts us false an si un rt rk mt mk md ln hv fr wh er kv tn kp false _ hm hr (S1.out) (S2.out)).mono ?_
          rintro e w3 ⟨rfl, hb3⟩
          rw [V1.out]
          have hB3 := hB2.trans (hb3.mono hB2.size)
          replace C0 := C0.below hb3 C0.lt
          replace C1 := C1.below hb3 C1.lt
          clear a0 a1 hb3 hn S1 S2
          have a0 := C0.cell
          have a1 := C1.cell
          go_wp2_with fail
          refine (cnone_any _).mono ?_
          rintro e w4 ⟨rfl, hb4⟩
          have hB4 := hB3.trans (hb4.mono hB3.size)
          replace C0 := C0.below hb4 C0.lt
          replace C1 := C1.below hb4 C1.lt
          clear a0 a1 hb4
          have a0 := C0.cell
          have a1 := C1.cell
          have f0 := C0.frozen
          have l0 := C0.lt
          have l1 := C1.lt
          go_upto_region 8 with fail
          obtain ⟨W, hW, D0, D1, hBW⟩ := lay_cond (y3 := .slice none 0 0) (y4 := .slice none 0 0) (y5 := .bool false) (y6 := .bool false) (y7 := .int .i64 (-1)) (y8 := .int .i64 (-1)) (y9 := .string ⟨#[]⟩) (y10 := .bool false) C0 C1 (by omega) hB4 (Nat.le_refl _)
          rw [← hW]
          clear a0 a1 f0 l0 l1 C0 C1
          have HW := hide hW
          clear hW
          have a0 := D0.cell
          have a1 := D1.cell
          have V2 := hide (show checkV sn [] [] false false (-1) (-1) (⟨#[]⟩, false) (mt, mk) md ln th = 1 by simp [checkV, c1B, c2B, c3B, someTag, ByteArray.toList_eq])
          go_wp2_with fail
          refine (check_any hd ob sa sn sc _ _ [] [] false false (-1) (-1) ⟨#[]⟩ false mt mk md ln hv fr wh er kv tn kp th _ hm (by decide) (RdTags.nil _ _) (RdTags.nil _ _)).mono ?_
          rintro e w5 ⟨rfl, hb5⟩
          rw [V2.out]
          have hB5 := hBW.trans (hb5.mono hBW.size)
          go_wp2_with fail
          refine (cnone_any _).mono ?_
          rintro e w6 ⟨rfl, hb6⟩
          have hB6 := hB5.trans (hb6.mono hB5.size)
          go_wp2_with fail
          refine (right_none _).mono ?_
          rintro e w7 ⟨rfl, hb7⟩
          have hB7 := hB6.trans (hb7.mono hB6.size)
          go_wp2_with fail
          refine (awake8 _).mono ?_
          rintro e wz ⟨rfl, hbz⟩
          go_wp2
          go_ret
          exact ⟨rfl, hB7.trans (hbz.mono hB7.size)⟩
        · have V1 := hide (show checkV sn ts us true an si un (rt, rk) (mt, mk) md ln false = 4 by simp [checkV, c1B, c2B, c3B, hn])
          go_wp2_with fail
          refine (check_any hd ob sa sn sc _ _ ts us true an si un rt rk mt mk md ln hv fr wh er kv tn kp false _ hm hr (S1.out) (S2.out)).mono ?_
          rintro e w3 ⟨rfl, hb3⟩
          rw [V1.out]
          have hB3 := hB2.trans (hb3.mono hB2.size)
          replace C0 := C0.below hb3 C0.lt
          replace C1 := C1.below hb3 C1.lt
          clear a0 a1 hb3 hn S1 S2
          have a0 := C0.cell
          have a1 := C1.cell
          go_wp2_with fail
          refine (cnone_any _).mono ?_
          rintro e w4 ⟨rfl, hb4⟩
          have hB4 := hB3.trans (hb4.mono hB3.size)
          replace C0 := C0.below hb4 C0.lt
          replace C1 := C1.below hb4 C1.lt
          clear a0 a1 hb4
          have a0 := C0.cell
          have a1 := C1.cell
          have f0 := C0.frozen
          have l0 := C0.lt
          have l1 := C1.lt
          go_upto_region 8 with fail
          obtain ⟨W, hW, D0, D1, hBW⟩ := lay_cond (y3 := .slice none 0 0) (y4 := .slice none 0 0) (y5 := .bool false) (y6 := .bool false) (y7 := .int .i64 (-1)) (y8 := .int .i64 (-1)) (y9 := .string ⟨#[]⟩) (y10 := .bool false) C0 C1 (by omega) hB4 (Nat.le_refl _)
          rw [← hW]
          clear a0 a1 f0 l0 l1 C0 C1
          have HW := hide hW
          clear hW
          have a0 := D0.cell
          have a1 := D1.cell
          have V2 := hide (show checkV sn [] [] false false (-1) (-1) (⟨#[]⟩, false) (mt, mk) md ln th = 1 by simp [checkV, c1B, c2B, c3B, someTag, ByteArray.toList_eq])
          go_wp2_with fail
          refine (check_any hd ob sa sn sc _ _ [] [] false false (-1) (-1) ⟨#[]⟩ false mt mk md ln hv fr wh er kv tn kp th _ hm (by decide) (RdTags.nil _ _) (RdTags.nil _ _)).mono ?_
          rintro e w5 ⟨rfl, hb5⟩
          rw [V2.out]
          have hB5 := hBW.trans (hb5.mono hBW.size)
          go_wp2_with fail
          refine (cnone_any _).mono ?_
          rintro e w6 ⟨rfl, hb6⟩
          have hB6 := hB5.trans (hb6.mono hB5.size)
          go_wp2_with fail
          refine (right_none _).mono ?_
          rintro e w7 ⟨rfl, hb7⟩
          have hB7 := hB6.trans (hb7.mono hB6.size)
          go_wp2_with fail
          refine (awake8 _).mono ?_
          rintro e wz ⟨rfl, hbz⟩
          go_wp2
          go_ret
          exact ⟨rfl, hB7.trans (hbz.mono hB7.size)⟩

theorem ps : ∀ t ∈ Try.f13.params.toList, Try.prog.readableRec t = true ∧ t < Try.prog.types.size := by
  rw [Try.params13]
  intro t ht
  simp at ht
  rcases ht with rfl | rfl | rfl
  all_goals exact ⟨by kernel_rfl, of_decide_eq_true (by kernel_rfl)⟩

set_option maxRecDepth 100000 in
theorem lifted (os : Os) (started : os.Started) (H : Type) (enc : TypeId × Value → H) :
    ReturnsInHanded {} Try.checked os 13 .any (Rows.condNoneSpec.pre6 enc Try.prog Try.f13 Rows.condNoneRow.domain false) (Rows.condNoneSpec.post enc Try.prog Try.f13 false true false false) := by
  refine returnsInHanded_of_change (C := Try.checked) law_own started (by kernel_rfl) Try.func13
    (ChangeSpec.witness6 (enc := enc) (C := Try.checked) false ⟨#[], #[.agg #[.bool false, .string ByteArray.empty, .slice none 0 0, .slice none 0 0, .slice none 0 0, .bool false, .bool false, .int .i64 0, .int .i64 0, .string ByteArray.empty, .bool false], .agg #[.string ByteArray.empty, .bool false, .int .i64 0, .int .i64 0, .int .i64 0, .int .i64 0, .int .i64 0, .int .i64 0, .slice none 0 0, .string ByteArray.empty, .bool false], .bool false], []⟩ 8 (by kernel_rfl) (by kernel_rfl) (by kernel_rfl) (by kernel_rfl)) ?_
  intro W base args ds gs before hval0 hW hcnd _
  have hval : ∀ (j : Nat) t v, Try.f13.params[j]? = some t → args[j]? = some v → Value.okWide Try.prog W .any base t v := hval0
  have hW' := hW
  have hlt : ∀ p ∈ before, p.block < W.heap.size := fun p hp => hW.lt p hp
  obtain ⟨p, q, hA0, hV, rfl, hfz, hnd⟩ := hW
  have hA : DataW.TrodAll enc Try.prog W 0 (fun _ => true) true Try.f13.params.toList args.toList ds p := hA0
  rw [Try.params13] at hA hval
  obtain ⟨v0, vs0, d0, ds0, p0, q0, hargs, rfl, rfl, h0, r0⟩ := trodAll_cons hA
  obtain ⟨v1, vs1, d1, ds1, p1, q1, rfl, rfl, rfl, h1, r1⟩ := trodAll_cons r0
  obtain ⟨v2, vs2, d2, ds2, p2, q2, rfl, rfl, rfl, h2, r2⟩ := trodAll_cons r1
  obtain ⟨rfl, rfl, rfl⟩ := trodAll_nil r2
  obtain rfl : args = #[v0, v1, v2] := by cases args; simp_all
  obtain ⟨rfl, rfl⟩ := trodVars_none hV
  obtain ⟨cs0, fu0, x0, rfl, t0⟩ := open_struct Try.underlying29 (hval 0 29 v0 rfl rfl) h0
  obtain ⟨hd, ob, sa, sn, sc, m, n, ts, us, am, an, si, un, rt, rk, rfl, rq0, rq1, rq2, rq3⟩ := open_req t0
  obtain ⟨cs1, fu1, x1, rfl, t1⟩ := open_struct Try.underlying32 (hval 1 32 v1 rfl rfl) h1
  obtain ⟨mt, mk, md, ln, hv, fr, wh, er, kv, tn, kp, rfl, mq0⟩ := open_meta t1
  obtain ⟨th, rfl, rfl, rfl⟩ := open_bool Try.underlying4 (hval 2 4 v2 rfl rfl) h2
  clear hA0 hval0
  refine (walk hd ob sa sn sc m n ts us am an si un rt rk mt mk md ln hv fr wh er kv tn kp th (Nat.le_trans rq2 mLen) (Nat.le_trans mq0 mLen) W rq0 rq1).mono fun e W' ⟨he, hb⟩ => ?_
  subst he
  exact ⟨_, rfl, law_close hW' rfl rfl rfl ps hb⟩

theorem proved : Rows.CondNoneSaid :=
  OpenClaim.holds_of_wide 13 Try.f13 rfl rfl rfl rfl rfl rfl rfl ⟨rfl, rfl, rfl, rfl, rfl⟩ rfl rfl rfl rfl rfl (by kernel_rfl) Try.func13 (by kernel_rfl)
    (of_decide_eq_true (by kernel_rfl)) (by unfold Func.isWrapper; first | (rw [if_pos (by decide +kernel)]; kernel_rfl) | (rw [if_neg (by decide +kernel)]; exact ⟨rfl, rfl⟩))
    (fun os started H enc _ => lifted os started H enc)
#print axioms proved
end Go.Proofs.Ytfbefjpajmigmaa.condNone
