/-
  What is New is of the version that was asked for, and has no byte ahead of what was asked, unless it is the whole: for every fetch and reply.
-/
import Derived.Test.YtdbocpgkedgpcaaFetP
import Derived.Test.YtdbocpgkedgpcaaFetE
import Derived.Test.YtdbocpgkedgpcaaOpenF
import Derived.Test.YtdbocpgkedgpcaaLift
import Derived.Test.YtdbocpgkedgpcaaFetQ
namespace Go.Proofs.Ytdbocpgkedgpcaa.fetchAsked
open Go.ChangeShapes Go.WideShapes Go.ChangeAt Go.RowKit Go.Deep
set_option linter.unusedVariables false
set_option linter.unusedSimpArgs false

set_option maxRecDepth 100000 in
set_option maxHeartbeats 8000000 in
theorem walk (ob : ByteArray) (fa fb : Int) (ft : ByteArray) (fk : Bool) (nt : ByteArray) (nk : Bool) (st : Int) (mt : ByteArray) (mk : Bool) (md ln hv fr wh er : Int) (kv : Value) (tn : ByteArray) (kp : Bool) (sa sb ag : Int) (ks : List ByteArray) (hob : ob.size ≤ 9223372036854775807) (hft : ft.size ≤ 9223372036854775807) (hnt : nt.size ≤ 9223372036854775807) (hmt : mt.size ≤ 9223372036854775807) (htn : tn.size ≤ 9223372036854775807) (w : World) (hr : RdStrs w w.heap.size kv ks) : Calls Try.prog 6 #[.agg #[.string ob, .int .i64 fa, .int .i64 fb, .string ft, .bool fk, .string nt, .bool nk], .agg #[.int .i64 st, .string mt, .bool mk, .int .i64 md, .int .i64 ln, .int .i64 hv, .int .i64 fr, .int .i64 wh, .int .i64 er, kv, .string tn, .bool kp, .int .i64 sa, .int .i64 sb, .int .i64 ag]] w (BoolOk true w) := by
  obtain ⟨A, c, rfl, hkc0, hc0⟩ := hr.form
  have R0 := hide hr
  clear hr
  go_enter Try.func6, Try.ntmps6
  go_wp2_with fail
  obtain ⟨w1, hw1⟩ : ∃ w1 : World, w1 = ((w).alloc (.cells #[.string ob, .int .i64 fa, .int .i64 fb, .string ft, .bool fk, .string nt, .bool nk] 27)).alloc (.cells #[.int .i64 st, .string mt, .bool mk, .int .i64 md, .int .i64 ln, .int .i64 hv, .int .i64 fr, .int .i64 wh, .int .i64 er, .slice A ks.length c, .string tn, .bool kp, .int .i64 sa, .int .i64 sb, .int .i64 ag] 32) := ⟨_, rfl⟩
  rw [← hw1]
  have hB1 : Below w.heap.size w w1 := by rw [hw1]; exact (((Below.refl _ _).alloc (Nat.le_refl _) _).alloc (by simp; try omega) _)
  have T : Blk w1 (w.heap.size) 27 #[.string ob, .int .i64 fa, .int .i64 fb, .string ft, .bool fk, .string nt, .bool nk] := by rw [hw1]; exact ((Blk.new _ _ _).alloc _)
  have P : Blk w1 (w.heap.size + 1) 32 #[.int .i64 st, .string mt, .bool mk, .int .i64 md, .int .i64 ln, .int .i64 hv, .int .i64 fr, .int .i64 wh, .int .i64 er, .slice A ks.length c, .string tn, .bool kp, .int .i64 sa, .int .i64 sb, .int .i64 ag] := by rw [hw1]; exact (Blk.new' (by simp))
  have R1 := hide ((R0.out.below hB1).mono hB1.size)
  clear hw1
  have cT := T.cell
  have cP := P.cell
  refine (wakes38 _).mono ?_
  rintro e w2 ⟨rfl, hb2⟩
  have hB2 := hB1.trans (hb2.mono hB1.size)
  replace T := T.below hb2 T.lt
  replace P := P.below hb2 P.lt
  replace R1 := hide ((R1.out.below hb2).mono hb2.size)
  clear cT cP hb2
  have cT := T.cell
  have cP := P.cell
  go_wp2_with fail
  refine (lsmall ob fa fb ft fk nt nk _).mono ?_
  rintro e w3 ⟨b, rfl, hb3⟩
  have hB3 := hB2.trans (hb3.mono hB2.size)
  replace T := T.below hb3 T.lt
  replace P := P.below hb3 P.lt
  replace R1 := hide ((R1.out.below hb3).mono hb3.size)
  clear cT cP hb3
  have cT := T.cell
  have cP := P.cell
  cases b
  · go_wp2
    go_ret
    exact ⟨rfl, hB3⟩
  · go_wp2_with fail
    refine (lSmall st mt mk md ln hv fr wh er _ tn kp sa sb ag ks _ R1.out).mono ?_
    rintro e w4 ⟨b, rfl, hb4⟩
    have hB4 := hB3.trans (hb4.mono hB3.size)
    replace T := T.below hb4 T.lt
    replace P := P.below hb4 P.lt
    replace R1 := hide ((R1.out.below hb4).mono hb4.size)
    clear cT cP hb4
    have cT := T.cell
    have cP := P.cell
    cases b
    · go_wp2
      go_ret
      exact ⟨rfl, hB4⟩
    · by_cases hv1 : readV ob fa fb (ft, fk) (nt, nk) st mt mk md ln hv fr wh er ks tn sa sb ag = 1
      · obtain ⟨_, hst, hbr⟩ := read_one hv1
        go_wp2_with fail
        refine (read_any ob fa fb ft fk nt nk st mt mk md ln hv fr wh er _ tn kp sa sb ag ks _ hob hft hnt hmt htn R1.out).mono ?_
        rintro e w5 ⟨rfl, hb5⟩
        have hB5 := hB4.trans (hb5.mono hB4.size)
        replace T := T.below hb5 T.lt
        replace P := P.below hb5 P.lt
        replace R1 := hide ((R1.out.below hb5).mono hb5.size)
        clear cT cP hb5
        have cT := T.cell
        have cP := P.cell
        rw [hv1]
        clear hv1
        by_cases hft0 : ft = ⟨#[]⟩
        · subst hft0
          by_cases h200 : st = 200
          · obtain ⟨b1, b2, b3, b4⟩ := brings_200 hbr h200
            have e1 : (st == 200) = true := by simpa using h200
            have e2 : (sa == 0) = true := by simpa using b1
            by_cases hl : ln = -1
            · have e3 : (sb == ln) = false := by rw [beq_eq_false_iff_ne, b2, hl]; decide
              have e4 : (ln == -1) = true := by simpa using hl
              have e5 : (sb == 4611686018427387904) = true := by rw [b2]; unfold endOf; rw [if_pos hl]; rfl
              clear hbr h200 b1 b2 hl
              go_wp2
              go_ret
              exact ⟨rfl, hB5⟩
            · have e3 : (sb == ln) = true := by rw [b2]; unfold endOf; rw [if_neg hl]; simp
              clear hbr h200 b1 b2 hl
              go_wp2
              go_ret
              exact ⟨rfl, hB5⟩
          · obtain ⟨b0, b1, b2, b3, b4⟩ := brings_206 hbr h200
            have e1 : (st == 200) = false := by simpa using h200
            have e2 : (st == 206) = true := by rcases hst with h | h; exact absurd h h200; simpa using h
            have e3 : (sa == fa) = true := by simpa using b2
            have e4 : decide (sb ≤ fb) = true := by simpa using b3
            have e5 : decide (sa < sb) = true := by simpa using b1
            clear hbr h200 hst b2
            go_wp2
            go_ret
            exact ⟨rfl, hB5⟩
        · have e0 := empty_no hft0
          have e00 := empty_no' hft0
          obtain ⟨rfl, t2⟩ := brings_tag hbr (some_text (b := fk) hft0)
          have t3 : (mt.toList == ft.toList) = true := t2
          clear hft0 t2
          by_cases h200 : st = 200
          · obtain ⟨b1, b2, b3, b4⟩ := brings_200 hbr h200
            have e1 : (st == 200) = true := by simpa using h200
            have e2 : (sa == 0) = true := by simpa using b1
            by_cases hl : ln = -1
            · have e3 : (sb == ln) = false := by rw [beq_eq_false_iff_ne, b2, hl]; decide
              have e4 : (ln == -1) = true := by simpa using hl
              have e5 : (sb == 4611686018427387904) = true := by rw [b2]; unfold endOf; rw [if_pos hl]; rfl
              clear hbr h200 b1 b2 hl
              go_wp2
              go_ret
              exact ⟨rfl, hB5⟩
            · have e3 : (sb == ln) = true := by rw [b2]; unfold endOf; rw [if_neg hl]; simp
              clear hbr h200 b1 b2 hl
              go_wp2
              go_ret
              exact ⟨rfl, hB5⟩
          · obtain ⟨b0, b1, b2, b3, b4⟩ := brings_206 hbr h200
            have e1 : (st == 200) = false := by simpa using h200
            have e2 : (st == 206) = true := by rcases hst with h | h; exact absurd h h200; simpa using h
            have e3 : (sa == fa) = true := by simpa using b2
            have e4 : decide (sb ≤ fb) = true := by simpa using b3
            have e5 : decide (sa < sb) = true := by simpa using b1
            clear hbr h200 hst b2
            go_wp2
            go_ret
            exact ⟨rfl, hB5⟩
      · have hv2 : (readV ob fa fb (ft, fk) (nt, nk) st mt mk md ln hv fr wh er ks tn sa sb ag == 1) = false := by simpa using hv1
        have hv3 : (readV ob fa fb (ft, fk) (nt, nk) st mt mk md ln hv fr wh er ks tn sa sb ag != 1) = true := by simpa using hv1
        clear hv1
        go_wp2_with fail
        refine (read_any ob fa fb ft fk nt nk st mt mk md ln hv fr wh er _ tn kp sa sb ag ks _ hob hft hnt hmt htn R1.out).mono ?_
        rintro e w5 ⟨rfl, hb5⟩
        have hB5 := hB4.trans (hb5.mono hB4.size)
        replace T := T.below hb5 T.lt
        replace P := P.below hb5 P.lt
        replace R1 := hide ((R1.out.below hb5).mono hb5.size)
        clear cT cP hb5
        have cT := T.cell
        have cP := P.cell
        go_wp2
        go_ret
        exact ⟨rfl, hB5⟩

theorem ps : ∀ t ∈ Try.f6.params.toList, Try.prog.readableRec t = true ∧ t < Try.prog.types.size := by
  rw [Try.params6]
  intro t ht
  simp at ht
  rcases ht with rfl | rfl
  all_goals exact ⟨by kernel_rfl, of_decide_eq_true (by kernel_rfl)⟩

set_option maxRecDepth 100000 in
theorem lifted (os : Os) (started : os.Started) (H : Type) (enc : TypeId × Value → H) :
    ReturnsInHanded {} Try.checked os 6 .any (Rows.fetchAskedSpec.pre6 enc Try.prog Try.f6 Rows.fetchAskedRow.domain false) (Rows.fetchAskedSpec.post enc Try.prog Try.f6 false true false false) := by
  refine returnsInHanded_of_change (C := Try.checked) law_own started (by kernel_rfl) Try.func6
    (ChangeSpec.witness6 (enc := enc) (C := Try.checked) false ⟨#[], #[.agg #[.string ByteArray.empty, .int .i64 0, .int .i64 0, .string ByteArray.empty, .bool false, .string ByteArray.empty, .bool false], .agg #[.int .i64 0, .string ByteArray.empty, .bool false, .int .i64 0, .int .i64 0, .int .i64 0, .int .i64 0, .int .i64 0, .int .i64 0, .slice none 0 0, .string ByteArray.empty, .bool false, .int .i64 0, .int .i64 0, .int .i64 0]], []⟩ 8 (by kernel_rfl) (by kernel_rfl) (by kernel_rfl) (by kernel_rfl)) ?_
  intro W base args ds gs before hval0 hW hcnd _
  have hval : ∀ (j : Nat) t v, Try.f6.params[j]? = some t → args[j]? = some v → Value.okWide Try.prog W .any base t v := hval0
  have hW' := hW
  have hlt : ∀ p ∈ before, p.block < W.heap.size := fun p hp => hW.lt p hp
  obtain ⟨p, q, hA0, hV, rfl, hfz, hnd⟩ := hW
  have hA : DataW.TrodAll enc Try.prog W 0 (fun _ => true) true Try.f6.params.toList args.toList ds p := hA0
  rw [Try.params6] at hA hval
  obtain ⟨v0, vs0, d0, ds0, p0, q0, hargs, rfl, rfl, h0, r0⟩ := trodAll_cons hA
  obtain ⟨v1, vs1, d1, ds1, p1, q1, rfl, rfl, rfl, h1, r1⟩ := trodAll_cons r0
  obtain ⟨rfl, rfl, rfl⟩ := trodAll_nil r1
  obtain rfl : args = #[v0, v1] := by cases args; simp_all
  obtain ⟨rfl, rfl⟩ := trodVars_none hV
  obtain ⟨cs0, fu0, x0, rfl, t0⟩ := open_struct Try.underlying27 (hval 0 27 v0 rfl rfl) h0
  obtain ⟨ob, fa, fb, ft, fk, nt, nk, rfl, hob, hft, hnt⟩ := open_fetch t0
  obtain ⟨cs1, fu1, x1, rfl, t1⟩ := open_struct Try.underlying32 (hval 1 32 v1 rfl rfl) h1
  obtain ⟨st, mt, mk, md, ln, hv, fr, wh, er, kv, tn, kp, sa, sb, ag, ks, rfl, hmt, htn, hr⟩ := open_reply t1
  clear hA0 hval0
  refine (walk ob fa fb ft fk nt nk st mt mk md ln hv fr wh er _ tn kp sa sb ag ks hob hft hnt hmt htn W hr).mono fun e W' ⟨he, hb⟩ => ?_
  subst he
  exact ⟨_, rfl, law_close hW' rfl rfl rfl ps hb⟩

theorem proved : Rows.FetchAskedSaid :=
  OpenClaim.holds_of_wide 6 Try.f6 rfl rfl rfl rfl rfl rfl rfl ⟨rfl, rfl, rfl, rfl, rfl⟩ rfl rfl rfl rfl rfl (by kernel_rfl) Try.func6 (by kernel_rfl)
    (of_decide_eq_true (by kernel_rfl)) (by unfold Func.isWrapper; first | (rw [if_pos (by decide +kernel)]; kernel_rfl) | (rw [if_neg (by decide +kernel)]; exact ⟨rfl, rfl⟩))
    (fun os started H enc _ => lifted os started H enc)
#print axioms proved

end Go.Proofs.Ytdbocpgkedgpcaa.fetchAsked
