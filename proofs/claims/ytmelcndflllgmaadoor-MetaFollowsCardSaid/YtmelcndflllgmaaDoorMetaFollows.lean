/-
  Whether any Meta may be known behind any other one, and whether they are the same, is what the reference says.
-/
import Derived.Test.YtmelcndflllgmaaDoorMetE
import Derived.Test.YtmelcndflllgmaaDoorOpenB
import Derived.Test.YtmelcndflllgmaaDoorLaidM
import Derived.Test.YtmelcndflllgmaaDoorLift
import Derived.Test.YtmelcndflllgmaaDoorTie
import Derived.Test.YtmelcndflllgmaaDoorCards
import Derived.SevenTiedAt
import Derived.Deep.DeepCutAuto
import Derived.Deep.RegionHeld3
import Derived.Test.YtmelcndflllgmaaDoorQuiet
import Derived.Test.YtmelcndflllgmaaDoorMetG
namespace Go.Proofs.YtmelcndflllgmaaDoor.metaFollows
open Go.ChangeShapes Go.WideShapes Go.ChangeAt Go.RowKit Go.Deep
set_option linter.unusedVariables false
set_option linter.unusedSimpArgs false

set_option maxRecDepth 100000 in
set_option maxHeartbeats 16000000 in
theorem walk (mt : ByteArray) (mk : Bool) (md ln hv fr wh er : Int) (kv : Value) (tn : ByteArray) (kp : Bool) (mt2 : ByteArray) (mk2 : Bool) (md2 ln2 hv2 fr2 wh2 er2 : Int) (kv2 : Value) (tn2 : ByteArray) (kp2 : Bool) (ks : List ByteArray) (ks2 : List ByteArray) (w : World) (hT : Tab w) (hmt : mt.size ≤ 9223372036854775807) (htn : tn.size ≤ 9223372036854775807) (hr : RdStrs w w.heap.size kv ks) (hmt2 : mt2.size ≤ 9223372036854775807) (htn2 : tn2.size ≤ 9223372036854775807) (hr2 : RdStrs w w.heap.size kv2 ks2) : Calls Tryd.prog 6 #[.agg #[.string mt, .bool mk, .int .i64 md, .int .i64 ln, .int .i64 hv, .int .i64 fr, .int .i64 wh, .int .i64 er, kv, .string tn, .bool kp], .agg #[.string mt2, .bool mk2, .int .i64 md2, .int .i64 ln2, .int .i64 hv2, .int .i64 fr2, .int .i64 wh2, .int .i64 er2, kv2, .string tn2, .bool kp2]] w (BoolOk true w) := by
  obtain ⟨A, c, rfl, hkc0, hc0⟩ := hr.form
  have HR0 := hide hr
  obtain ⟨A2, c2, rfl, hkc02, hc02⟩ := hr2.form
  have HR20 := hide hr2
  clear hr hr2
  have HT := hide hT
  clear hT
  go_enter Tryd.func6, Tryd.ntmps6
  go_wp2_with fail
  obtain ⟨w1, hw1⟩ : ∃ w1 : World, w1 = ((w).alloc (.cells #[.string mt, .bool mk, .int .i64 md, .int .i64 ln, .int .i64 hv, .int .i64 fr, .int .i64 wh, .int .i64 er, .slice A ks.length c, .string tn, .bool kp] 26)).alloc (.cells #[.string mt2, .bool mk2, .int .i64 md2, .int .i64 ln2, .int .i64 hv2, .int .i64 fr2, .int .i64 wh2, .int .i64 er2, .slice A2 ks2.length c2, .string tn2, .bool kp2] 26) := ⟨_, rfl⟩
  rw [← hw1]
  have hB1 : Below w.heap.size w w1 := by rw [hw1]; exact (((Below.refl _ _).alloc (Nat.le_refl _) _).alloc (by simp; try omega) _)
  have T : Blk w1 (w.heap.size) 26 #[.string mt, .bool mk, .int .i64 md, .int .i64 ln, .int .i64 hv, .int .i64 fr, .int .i64 wh, .int .i64 er, .slice A ks.length c, .string tn, .bool kp] := by rw [hw1]; exact ((Blk.new _ _ _).alloc _)
  have U : Blk w1 (w.heap.size + 1) 26 #[.string mt2, .bool mk2, .int .i64 md2, .int .i64 ln2, .int .i64 hv2, .int .i64 fr2, .int .i64 wh2, .int .i64 er2, .slice A2 ks2.length c2, .string tn2, .bool kp2] := by rw [hw1]; exact (Blk.new' (by simp))
  have HR1 := hide ((HR0.out.below hB1).mono hB1.size)
  have HR21 := hide ((HR20.out.below hB1).mono hB1.size)
  clear hw1
  have cT := T.cell
  have cU := U.cell
  refine (wakes_any _ (HT.out.below hB1)).mono ?_
  rintro e w2 ⟨rfl, hb2⟩
  have hB2 := hB1.trans (hb2.mono hB1.size)
  replace T := T.below hb2 T.lt
  replace U := U.below hb2 U.lt
  replace HR1 := hide ((HR1.out.below hb2).mono hb2.size)
  replace HR21 := hide ((HR21.out.below hb2).mono hb2.size)
  clear cT cU hb2
  have cT := T.cell
  have cU := U.cell
  go_wp2_with fail
  refine (small_any mt mk md ln hv fr wh er _ tn kp ks _ hmt htn HR1.out).mono ?_
  rintro e w3 ⟨rfl, hb3⟩
  have hB3 := hB2.trans (hb3.mono hB2.size)
  replace T := T.below hb3 T.lt
  replace U := U.below hb3 U.lt
  replace HR1 := hide ((HR1.out.below hb3).mono hb3.size)
  replace HR21 := hide ((HR21.out.below hb3).mono hb3.size)
  clear cT cU hb3
  have cT := T.cell
  have cU := U.cell
  cases q1 : smallB mt ks tn
  · go_wp2_with fail
    go_ret
    exact ⟨rfl, hB3⟩
  · clear q1
    go_wp2_with fail
    refine (small_any mt2 mk2 md2 ln2 hv2 fr2 wh2 er2 _ tn2 kp2 ks2 _ hmt2 htn2 HR21.out).mono ?_
    rintro e w4 ⟨rfl, hb4⟩
    have hB4 := hB3.trans (hb4.mono hB3.size)
    replace T := T.below hb4 T.lt
    replace U := U.below hb4 U.lt
    replace HR1 := hide ((HR1.out.below hb4).mono hb4.size)
    replace HR21 := hide ((HR21.out.below hb4).mono hb4.size)
    clear cT cU hb4
    have cT := T.cell
    have cU := U.cell
    cases q2 : smallB mt2 ks2 tn2
    · go_wp2_with fail
      go_ret
      exact ⟨rfl, hB4⟩
    · clear q2
      obtain ⟨fo, hfo⟩ : ∃ b, followsB mt mk md ln hv fr wh er ks tn mt2 mk2 md2 ln2 hv2 fr2 wh2 er2 ks2 tn2 = b := ⟨_, rfl⟩
      obtain ⟨sa, hsa⟩ : ∃ b, sameM mt mk md ln hv fr wh er ks tn kp mt2 mk2 md2 ln2 hv2 fr2 wh2 er2 ks2 tn2 kp2 = b := ⟨_, rfl⟩
      have Hfollows_any := hide (fun (kv ku : Value) (W : World) (h : RdStrs W W.heap.size kv ks) (h2 : RdStrs W W.heap.size ku ks2) => (follows_any mt mk md ln hv fr wh er kv tn kp mt2 mk2 md2 ln2 hv2 fr2 wh2 er2 ku tn2 kp2 ks ks2 W hmt htn h hmt2 htn2 h2 : Calls Tryd.prog 16 _ _ _))
      have Hrfollows_any := hide (fun (kv ku : Value) (W : World) (h : RdStrs W W.heap.size kv ks) (h2 : RdStrs W W.heap.size ku ks2) => (rfollows_any mt mk md ln hv fr wh er kv tn kp mt2 mk2 md2 ln2 hv2 fr2 wh2 er2 ku tn2 kp2 ks ks2 W hmt htn h hmt2 htn2 h2 : Calls Tryd.prog 17 _ _ _))
      have Hmsame_any := hide (fun (kv ku : Value) (W : World) (h : RdStrs W W.heap.size kv ks) (h2 : RdStrs W W.heap.size ku ks2) => (msame_any mt mk md ln hv fr wh er kv tn kp mt2 mk2 md2 ln2 hv2 fr2 wh2 er2 ku tn2 kp2 ks ks2 W hmt htn h hmt2 htn2 h2 : Calls Tryd.prog 18 _ _ _))
      have Hrmsame_any := hide (fun (kv ku : Value) (W : World) (h : RdStrs W W.heap.size kv ks) (h2 : RdStrs W W.heap.size ku ks2) => (rmsame_any mt mk md ln hv fr wh er kv tn kp mt2 mk2 md2 ln2 hv2 fr2 wh2 er2 ku tn2 kp2 ks ks2 W hmt htn h hmt2 htn2 h2 : Calls Tryd.prog 19 _ _ _))
      rw [hfo] at Hfollows_any Hrfollows_any
      rw [hsa] at Hmsame_any Hrmsame_any
      clear hfo hsa
      have gf : (fo == fo) = true := by simp
      have gs : (sa == sa) = true := by simp
      go_upto_region 5 with fail
      have qT : ∀ (x : Bel w4.heap.size w4) i, x.w.cell? ⟨w.heap.size, i, none⟩ = (#[.string mt, .bool mk, .int .i64 md, .int .i64 ln, .int .i64 hv, .int .i64 fr, .int .i64 wh, .int .i64 er, .slice A ks.length c, .string tn, .bool kp] : Array Value)[i]? := fun x i => (T.below x.h T.lt).cell i
      have qU : ∀ (x : Bel w4.heap.size w4) i, x.w.cell? ⟨w.heap.size + 1, i, none⟩ = (#[.string mt2, .bool mk2, .int .i64 md2, .int .i64 ln2, .int .i64 hv2, .int .i64 fr2, .int .i64 wh2, .int .i64 er2, .slice A2 ks2.length c2, .string tn2, .bool kp2] : Array Value)[i]? := fun x i => (U.below x.h U.lt).cell i
      have uHR := hide (show ∀ x : Bel w4.heap.size w4, RdStrs x.w x.w.heap.size (.slice A ks.length c) ks from fun x => (HR1.out.below x.h).mono x.h.size)
      have uHR2 := hide (show ∀ x : Bel w4.heap.size w4, RdStrs x.w x.w.heap.size (.slice A2 ks2.length c2) ks2 from fun x => (HR21.out.below x.h).mono x.h.size)
      clear cT cU
      refine wp_region_bel w4.heap.size (by kernel_rfl) (by kernel_rfl) ?_
      (repeat (go_big_quiet_step ((first | (go_at_call 16; exact bel_call (Nat.le_refl _) (Hfollows_any.out _ _ _ (uHR.out _) (uHR2.out _))) | (go_at_call 17; exact bel_call (Nat.le_refl _) (Hrfollows_any.out _ _ _ (uHR.out _) (uHR2.out _))) | (go_at_call 18; exact bel_call (Nat.le_refl _) (Hmsame_any.out _ _ _ (uHR.out _) (uHR2.out _))) | (go_at_call 19; exact bel_call (Nat.le_refl _) (Hrmsame_any.out _ _ _ (uHR.out _) (uHR2.out _)))))))
      refine wpQuiet_nil ?_
      rintro w9 ⟨⟨_, hb9⟩, rfl⟩
      go_wp2
      go_ret
      exact ⟨rfl, hB4.trans (hb9.mono hB4.size)⟩

theorem ps : ∀ t ∈ Tryd.f6.params.toList, Tryd.prog.readableRec t = true ∧ t < Tryd.prog.types.size := by
  rw [Tryd.params6]
  intro t ht
  simp at ht
  subst ht
  all_goals exact ⟨by kernel_rfl, of_decide_eq_true (by kernel_rfl)⟩

set_option maxRecDepth 100000 in
theorem lifted (os : Os) (started : os.Started) (H : Type) (enc : TypeId × Value → H) :
    ReturnsInHanded {} Tryd.checked os 6 .any (fun w args => (Rows.metaFollowsSpec.pre enc Tryd.prog Tryd.f6 [] false w args ∧ laidMetH Tryd.prog laidL w) ∧ sizedMet enc Tryd.prog Tryd.f6 (OpenSpec.ofChange Rows.metaFollowsSpec) false w args) (Rows.metaFollowsSpec.post enc Tryd.prog Tryd.f6 false true false false) := by
  refine returnsInHanded_of_change_and (C := Tryd.checked) (X := fun w _ => laidMetH Tryd.prog laidL w) (fun _ _ _ hh h => h.of_heap hh) law_own started (by kernel_rfl) Tryd.func6
    (ChangeSpec.witness_shaped (enc := enc) (C := Tryd.checked) (os := os) (X := fun w _ => laidMetH Tryd.prog laidL w) false (World.doorLaid Tryd.prog 400 os) #[.agg #[.string ByteArray.empty, .bool false, .int .i64 0, .int .i64 0, .int .i64 0, .int .i64 0, .int .i64 0, .int .i64 0, .slice none 0 0, .string ByteArray.empty, .bool false], .agg #[.string ByteArray.empty, .bool false, .int .i64 0, .int .i64 0, .int .i64 0, .int .i64 0, .int .i64 0, .int .i64 0, .slice none 0 0, .string ByteArray.empty, .bool false]] 8 rfl (World.shaped_of_RefB (by kernel_rfl) (by kernel_rfl)) (by kernel_rfl) (by kernel_rfl) (by kernel_rfl) (door_met os _)) ?_
  intro W base args ds gs before hval0 hW _ hsz hL _
  have hval : ∀ (j : Nat) t v, Tryd.f6.params[j]? = some t → args[j]? = some v → Value.okWide Tryd.prog W .any base t v := hval0
  have hW' := hW
  have hlt : ∀ p ∈ before, p.block < W.heap.size := fun p hp => hW.lt p hp
  obtain ⟨p, q, hA0, hV, rfl, hfz, hnd⟩ := hW
  have hA : DataW.TrodAll enc Tryd.prog W 0 (fun _ => true) true Tryd.f6.params.toList args.toList ds p := hA0
  rw [Tryd.params6] at hA hval
  obtain ⟨v0, vs0, d0, ds0, p0, q0, hargs, rfl, rfl, h0, r0⟩ := trodAll_cons hA
  obtain ⟨v1, vs1, d1, ds1, p1, q1, rfl, rfl, rfl, h1, r1⟩ := trodAll_cons r0
  obtain ⟨rfl, rfl, rfl⟩ := trodAll_nil r1
  obtain rfl : args = #[v0, v1] := by cases args; simp_all
  obtain ⟨rfl, rfl⟩ := trodVars_none hV
  obtain ⟨cs0, fu0, x0, rfl, t0⟩ := open_struct Tryd.underlying26 (hval 0 26 v0 rfl rfl) h0
  obtain ⟨mt, mk, md, ln, hv, fr, wh, er, kv, tn, kp, ks, rfl, hmt, htn, hr⟩ := open_meta t0
  obtain ⟨cs1, fu1, x1, rfl, t1⟩ := open_struct Tryd.underlying26 (hval 1 26 v1 rfl rfl) h1
  obtain ⟨mt2, mk2, md2, ln2, hv2, fr2, wh2, er2, kv2, tn2, kp2, ks2, rfl, hmt2, htn2, hr2⟩ := open_meta t1
  clear hA0 hval0
  refine (walk mt mk md ln hv fr wh er _ tn kp mt2 mk2 md2 ln2 hv2 fr2 wh2 er2 _ tn2 kp2 ks ks2 W (tab_of_laid hL) hmt htn hr hmt2 htn2 hr2).mono fun e W' ⟨he, hb⟩ => ?_
  subst he
  exact ⟨_, rfl, law_close hW' rfl rfl rfl ps hb⟩

theorem row : Rows.MetaFollowsSaid :=
  OpenClaim.holds_of_wide 6 Tryd.f6 rfl rfl rfl rfl rfl rfl rfl ⟨rfl, rfl, rfl, rfl, rfl⟩ rfl rfl rfl rfl rfl (by kernel_rfl) Tryd.func6 (by kernel_rfl)
    (of_decide_eq_true (by kernel_rfl)) (by unfold Func.isWrapper; first | (rw [if_pos (by decide +kernel)]; kernel_rfl) | (rw [if_neg (by decide +kernel)]; exact ⟨rfl, rfl⟩))
    (fun os started H enc _ => lifted os started H enc)
theorem proved : Rows.MetaFollowsCardSaid :=
  Claim7.holds_tied_plain_at .later [] [.data, .data, .data] true (true, "b4a9c889a27dbc13550ee604671a7a5c034765fb2c47d86a7d1c64ca3948f54b") false
    row (fun _ h => by cases h) (by kernel_rfl) (fun _ h => by cases h) metaFollows_row_tie rfl ⟨rfl, rfl⟩ (by kernel_rfl) rfl
    (fun f fn hf hfn => by
      obtain rfl : f = 6 := Option.some.inj ((show Tryd.prog.funcNamed "mandoline/mandolinelaw14.MetaFollows" = some 6 by kernel_rfl).symm.trans hf) |>.symm
      obtain rfl : fn = Tryd.f6 := (Option.some.inj (Tryd.func6.symm.trans hfn)).symm
      exact ⟨by kernel_rfl, fun j t ht => by
        rw [Tryd.params6] at ht
        have hm : t ∈ [26, 26] := by simpa using Array.mem_of_getElem? ht
        have hall : ([26, 26].all fun u => !Tryd.prog.wantsStandIn u) = true := by kernel_rfl
        exact (show Tryd.prog.wantsStandIn t = false by simpa using List.all_eq_true.1 hall t hm)⟩)
    (by kernel_rfl)
#print axioms proved

end Go.Proofs.YtmelcndflllgmaaDoor.metaFollows
