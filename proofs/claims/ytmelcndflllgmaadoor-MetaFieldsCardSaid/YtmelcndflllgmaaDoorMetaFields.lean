/-
  Any Meta, with any age, has the fields that the reference says, or may not be.
-/
import Derived.Test.YtmelcndflllgmaaDoorMetE
import Derived.Test.YtmelcndflllgmaaDoorOpenB
import Derived.Test.YtmelcndflllgmaaDoorLaidM
import Derived.Test.YtmelcndflllgmaaDoorLift
import Derived.Test.YtmelcndflllgmaaDoorTie
import Derived.Test.YtmelcndflllgmaaDoorCards
import Derived.SevenTiedAt
import Derived.Deep.DeepCutAuto
import Derived.Deep.RegionHeld3
import Derived.Test.YtmelcndflllgmaaDoorQuiet
import Derived.Test.YtmelcndflllgmaaDoorFldC
namespace Go.Proofs.YtmelcndflllgmaaDoor.metaFields
open Go.ChangeShapes Go.WideShapes Go.ChangeAt Go.RowKit Go.Deep
set_option linter.unusedVariables false
set_option linter.unusedSimpArgs false

theorem fields_uniq {mt : ByteArray} {mk : Bool} {md ln hv fr wh er : Int} {ks : List ByteArray} {tn : ByteArray} {kp : Bool} {age : Int} {dt dt2 : List UInt8} (h : md = -1 ∨ IsText md ⟨dt.toArray⟩) (g : md = -1 ∨ IsText md ⟨dt2.toArray⟩) :
    fieldsF mt mk md ln hv fr wh er ks tn kp age dt = fieldsF mt mk md ln hv fr wh er ks tn kp age dt2 := by
  by_cases hm : md = -1
  · have e : (md != -1) = false := by simpa using hm
    unfold fieldsF
    rw [e, flagF_no, flagF_no]
  · have e := (h.resolve_left hm).uniq (g.resolve_left hm)
    have e2 : dt = dt2 := by simpa using e
    rw [e2]

set_option maxRecDepth 100000 in
set_option maxHeartbeats 16000000 in
theorem walk (mt : ByteArray) (mk : Bool) (md ln hv fr wh er : Int) (kv : Value) (tn : ByteArray) (kp : Bool) (age : Int) (ks : List ByteArray) (w : World) (hT : Tab w) (hmt : mt.size ≤ 9223372036854775807) (htn : tn.size ≤ 9223372036854775807) (hr : RdStrs w w.heap.size kv ks) : Calls Tryd.prog 4 #[.agg #[.string mt, .bool mk, .int .i64 md, .int .i64 ln, .int .i64 hv, .int .i64 fr, .int .i64 wh, .int .i64 er, kv, .string tn, .bool kp], .int .i64 age] w (BoolOk true w) := by
  obtain ⟨A, c, rfl, hkc0, hc0⟩ := hr.form
  have HR0 := hide hr
  clear hr
  have HT := hide hT
  clear hT
  go_enter Tryd.func4, Tryd.ntmps4
  go_wp2_with fail
  obtain ⟨w1, hw1⟩ : ∃ w1 : World, w1 = (w).alloc (.cells #[.string mt, .bool mk, .int .i64 md, .int .i64 ln, .int .i64 hv, .int .i64 fr, .int .i64 wh, .int .i64 er, .slice A ks.length c, .string tn, .bool kp] 26) := ⟨_, rfl⟩
  rw [← hw1]
  have hB1 : Below w.heap.size w w1 := by rw [hw1]; exact ((Below.refl _ _).alloc (Nat.le_refl _) _)
  have T : Blk w1 (w.heap.size) 26 #[.string mt, .bool mk, .int .i64 md, .int .i64 ln, .int .i64 hv, .int .i64 fr, .int .i64 wh, .int .i64 er, .slice A ks.length c, .string tn, .bool kp] := by rw [hw1]; exact (Blk.new _ _ _)
  have HR1 := hide ((HR0.out.below hB1).mono hB1.size)
  clear hw1
  have cT := T.cell
  refine (wakes_any _ (HT.out.below hB1)).mono ?_
  rintro e w2 ⟨rfl, hb2⟩
  have hB2 := hB1.trans (hb2.mono hB1.size)
  replace T := T.below hb2 T.lt
  replace HR1 := hide ((HR1.out.below hb2).mono hb2.size)
  clear cT hb2
  have cT := T.cell
  go_wp2_with fail
  refine (small_any mt mk md ln hv fr wh er _ tn kp ks _ hmt htn HR1.out).mono ?_
  rintro e w3 ⟨rfl, hb3⟩
  have hB3 := hB2.trans (hb3.mono hB2.size)
  replace T := T.below hb3 T.lt
  replace HR1 := hide ((HR1.out.below hb3).mono hb3.size)
  clear cT hb3
  have cT := T.cell
  cases q1 : smallB mt ks tn
  · go_wp2_with fail
    go_ret
    exact ⟨rfl, hB3⟩
  · clear q1
    by_cases hy : metaOk mt mk md ln hv fr wh er ks tn = true ∧ tickOk age = true
    · have HM := hide hy.1
      have HA := hide hy.2
      clear hy
      go_wp2_with fail
      refine (fields_yes mt mk md ln hv fr wh er _ tn kp age ks _ hmt htn HR1.out (HT.out.below hB3) HM.out HA.out).mono ?_
      rintro e w4 ⟨v1, dt, rfl, hdt, O1, hb4⟩
      have hB4 := hB3.trans (hb4.mono hB3.size)
      replace T := T.below hb4 T.lt
      replace HR1 := hide ((HR1.out.below hb4).mono hb4.size)
      clear cT hb4
      have cT := T.cell
      obtain ⟨lf, hlf⟩ : ∃ x, x = fieldsF mt mk md ln hv fr wh er ks tn kp age dt := ⟨_, rfl⟩
      rw [← hlf] at O1
      have HLF := hide hlf
      clear hlf
      obtain ⟨A1, c1, rfl, _, _⟩ := O1.rd.form
      go_wp2_with fail
      refine (rfields_yes mt mk md ln hv fr wh er _ tn kp age ks _ hmt htn HR1.out HM.out HA.out).mono ?_
      rintro e w5 ⟨v2, dt2, rfl, hdt2, O2, hb5⟩
      have hB5 := hB4.trans (hb5.mono hB4.size)
      replace T := T.below hb5 T.lt
      replace HR1 := hide ((HR1.out.below hb5).mono hb5.size)
      replace O1 := O1.below hb5 (Nat.le_refl _)
      clear cT hb5
      have cT := T.cell
      have he : fieldsF mt mk md ln hv fr wh er ks tn kp age dt2 = lf := by rw [HLF.out]; exact fields_uniq hdt2 hdt
      rw [he] at O2
      clear he
      obtain ⟨A2, c2, rfl, _, _⟩ := O2.rd.form
      have R1 := O1.rd
      have R2 := O2.rd
      clear O1 O2
      have CS := fsame_any _ _ lf lf _ _ _ (Nat.le_refl _) (Nat.le_refl _) R1 R2
      rw [show decide (lf = lf) = true from decide_eq_true rfl] at CS
      clear R1 R2
      go_wp2_with fail
      refine CS.mono ?_
      rintro e w6 ⟨rfl, hb6⟩
      go_wp2_with fail
      go_ret
      exact ⟨rfl, hB5.trans (hb6.mono hB5.size)⟩
    · have HNO := hide (show metaOk mt mk md ln hv fr wh er ks tn = false ∨ tickOk age = false by
        cases h1 : metaOk mt mk md ln hv fr wh er ks tn
        · exact .inl rfl
        · cases h2 : tickOk age
          · exact .inr rfl
          · exact absurd ⟨h1, h2⟩ hy)
      clear hy
      go_wp2_with fail
      refine (fields_no mt mk md ln hv fr wh er _ tn kp age ks _ hmt htn HR1.out HNO.out).mono ?_
      rintro e w4 ⟨rfl, hb4⟩
      have hB4 := hB3.trans (hb4.mono hB3.size)
      replace T := T.below hb4 T.lt
      replace HR1 := hide ((HR1.out.below hb4).mono hb4.size)
      clear cT hb4
      have cT := T.cell
      go_wp2_with fail
      refine (rfields_no mt mk md ln hv fr wh er _ tn kp age ks _ hmt htn HR1.out HNO.out).mono ?_
      rintro e w5 ⟨rfl, hb5⟩
      have hB5 := hB4.trans (hb5.mono hB4.size)
      replace T := T.below hb5 T.lt
      replace HR1 := hide ((HR1.out.below hb5).mono hb5.size)
      clear cT hb5
      have cT := T.cell
      have CS := fsame_any _ _ [] [] _ _ _ (Nat.le_refl _) (Nat.le_refl _) (RdL.nil w5 w5.heap.size 0 none (by decide)) (RdL.nil w5 w5.heap.size 0 none (by decide))
      rw [show decide (([] : List FieldL) = []) = true from decide_eq_true rfl] at CS
      go_wp2_with fail
      refine CS.mono ?_
      rintro e w6 ⟨rfl, hb6⟩
      go_wp2_with fail
      go_ret
      exact ⟨rfl, hB5.trans (hb6.mono hB5.size)⟩

theorem ps : ∀ t ∈ Tryd.f4.params.toList, Tryd.prog.readableRec t = true ∧ t < Tryd.prog.types.size := by
  rw [Tryd.params4]
  intro t ht
  simp at ht
  rcases ht with rfl | rfl
  all_goals exact ⟨by kernel_rfl, of_decide_eq_true (by kernel_rfl)⟩

set_option maxRecDepth 100000 in
theorem lifted (os : Os) (started : os.Started) (H : Type) (enc : TypeId × Value → H) :
    ReturnsInHanded {} Tryd.checked os 4 .any (fun w args => (Rows.metaFieldsSpec.pre enc Tryd.prog Tryd.f4 [] false w args ∧ laidMetH Tryd.prog laidL w) ∧ sizedMet enc Tryd.prog Tryd.f4 (OpenSpec.ofChange Rows.metaFieldsSpec) false w args) (Rows.metaFieldsSpec.post enc Tryd.prog Tryd.f4 false true false false) := by
  refine returnsInHanded_of_change_and (C := Tryd.checked) (X := fun w _ => laidMetH Tryd.prog laidL w) (fun _ _ _ hh h => h.of_heap hh) law_own started (by kernel_rfl) Tryd.func4
    (ChangeSpec.witness_shaped (enc := enc) (C := Tryd.checked) (os := os) (X := fun w _ => laidMetH Tryd.prog laidL w) false (World.doorLaid Tryd.prog 400 os) #[.agg #[.string ByteArray.empty, .bool false, .int .i64 0, .int .i64 0, .int .i64 0, .int .i64 0, .int .i64 0, .int .i64 0, .slice none 0 0, .string ByteArray.empty, .bool false], .int .i64 0] 8 rfl (World.shaped_of_RefB (by kernel_rfl) (by kernel_rfl)) (by kernel_rfl) (by kernel_rfl) (by kernel_rfl) (door_met os _)) ?_
  intro W base args ds gs before hval0 hW _ hsz hL _
  have hval : ∀ (j : Nat) t v, Tryd.f4.params[j]? = some t → args[j]? = some v → Value.okWide Tryd.prog W .any base t v := hval0
  have hW' := hW
  have hlt : ∀ p ∈ before, p.block < W.heap.size := fun p hp => hW.lt p hp
  obtain ⟨p, q, hA0, hV, rfl, hfz, hnd⟩ := hW
  have hA : DataW.TrodAll enc Tryd.prog W 0 (fun _ => true) true Tryd.f4.params.toList args.toList ds p := hA0
  rw [Tryd.params4] at hA hval
  obtain ⟨v0, vs0, d0, ds0, p0, q0, hargs, rfl, rfl, h0, r0⟩ := trodAll_cons hA
  obtain ⟨v1, vs1, d1, ds1, p1, q1, rfl, rfl, rfl, h1, r1⟩ := trodAll_cons r0
  obtain ⟨rfl, rfl, rfl⟩ := trodAll_nil r1
  obtain rfl : args = #[v0, v1] := by cases args; simp_all
  obtain ⟨rfl, rfl⟩ := trodVars_none hV
  obtain ⟨cs0, fu0, x0, rfl, t0⟩ := open_struct Tryd.underlying26 (hval 0 26 v0 rfl rfl) h0
  obtain ⟨mt, mk, md, ln, hv, fr, wh, er, kv, tn, kp, ks, rfl, hmt, htn, hr⟩ := open_meta t0
  obtain ⟨age, rfl, rfl, rfl, _⟩ := open_int Tryd.underlying2 (hval 1 2 v1 rfl rfl) h1
  clear hA0 hval0
  refine (walk mt mk md ln hv fr wh er _ tn kp age ks W (tab_of_laid hL) hmt htn hr).mono fun e W' ⟨he, hb⟩ => ?_
  subst he
  exact ⟨_, rfl, law_close hW' rfl rfl rfl ps hb⟩

theorem row : Rows.MetaFieldsSaid :=
  OpenClaim.holds_of_wide 4 Tryd.f4 rfl rfl rfl rfl rfl rfl rfl ⟨rfl, rfl, rfl, rfl, rfl⟩ rfl rfl rfl rfl rfl (by kernel_rfl) Tryd.func4 (by kernel_rfl)
    (of_decide_eq_true (by kernel_rfl)) (by unfold Func.isWrapper; first | (rw [if_pos (by decide +kernel)]; kernel_rfl) | (rw [if_neg (by decide +kernel)]; exact ⟨rfl, rfl⟩))
    (fun os started H enc _ => lifted os started H enc)
theorem proved : Rows.MetaFieldsCardSaid :=
  Claim7.holds_tied_plain_at .later [] [.data, .data, .data] true (true, "b4a9c889a27dbc13550ee604671a7a5c034765fb2c47d86a7d1c64ca3948f54b") false
    row (fun _ h => by cases h) (by kernel_rfl) (fun _ h => by cases h) metaFields_row_tie rfl ⟨rfl, rfl⟩ (by kernel_rfl) rfl
    (fun f fn hf hfn => by
      obtain rfl : f = 4 := Option.some.inj ((show Tryd.prog.funcNamed "mandoline/mandolinelaw14.MetaFields" = some 4 by kernel_rfl).symm.trans hf) |>.symm
      obtain rfl : fn = Tryd.f4 := (Option.some.inj (Tryd.func4.symm.trans hfn)).symm
      exact ⟨by kernel_rfl, fun j t ht => by
        rw [Tryd.params4] at ht
        have hm : t ∈ [26, 2] := by simpa using Array.mem_of_getElem? ht
        have hall : ([26, 2].all fun u => !Tryd.prog.wantsStandIn u) = true := by kernel_rfl
        exact (show Tryd.prog.wantsStandIn t = false by simpa using List.all_eq_true.1 hall t hm)⟩)
    (by kernel_rfl)
#print axioms proved

end Go.Proofs.YtmelcndflllgmaaDoor.metaFields
