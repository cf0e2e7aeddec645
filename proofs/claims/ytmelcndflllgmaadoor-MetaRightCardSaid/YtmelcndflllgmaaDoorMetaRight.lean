/-
  Whether any Meta may be, and whether its bytes may be joined, is what the reference says: for every Meta.
-/
import Derived.Test.YtmelcndflllgmaaDoorMetE
import Derived.Test.YtmelcndflllgmaaDoorOpenB
import Derived.Test.YtmelcndflllgmaaDoorLaidM
import Derived.Test.YtmelcndflllgmaaDoorLift
import Derived.Test.YtmelcndflllgmaaDoorTie
import Derived.Test.YtmelcndflllgmaaDoorCards
import Derived.SevenTiedAt
import Derived.Deep.DeepCutAuto
import Derived.Deep.RegionHeld3
import Derived.Test.YtmelcndflllgmaaDoorQuiet
namespace Go.Proofs.YtmelcndflllgmaaDoor.metaRight
open Go.ChangeShapes Go.WideShapes Go.ChangeAt Go.RowKit Go.Deep
set_option linter.unusedVariables false
set_option linter.unusedSimpArgs false

set_option maxRecDepth 100000 in
set_option maxHeartbeats 8000000 in
theorem walk (mt : ByteArray) (mk : Bool) (md ln hv fr wh er : Int) (kv : Value) (tn : ByteArray) (kp : Bool) (ks : List ByteArray) (w : World) (hT : Tab w) (hmt : mt.size ≤ 9223372036854775807) (htn : tn.size ≤ 9223372036854775807) (hr : RdStrs w w.heap.size kv ks) : Calls Tryd.prog 3 #[.agg #[.string mt, .bool mk, .int .i64 md, .int .i64 ln, .int .i64 hv, .int .i64 fr, .int .i64 wh, .int .i64 er, kv, .string tn, .bool kp]] w (BoolOk true w) := by
  obtain ⟨A, c, rfl, hkc0, hc0⟩ := hr.form
  have HR0 := hide hr
  clear hr
  have HT := hide hT
  clear hT
  go_enter Tryd.func3, Tryd.ntmps3
  go_wp2_with fail
  obtain ⟨w1, hw1⟩ : ∃ w1 : World, w1 = (w).alloc (.cells #[.string mt, .bool mk, .int .i64 md, .int .i64 ln, .int .i64 hv, .int .i64 fr, .int .i64 wh, .int .i64 er, .slice A ks.length c, .string tn, .bool kp] 26) := ⟨_, rfl⟩
  rw [← hw1]
  have hB1 : Below w.heap.size w w1 := by rw [hw1]; exact ((Below.refl _ _).alloc (Nat.le_refl _) _)
  have T : Blk w1 (w.heap.size) 26 #[.string mt, .bool mk, .int .i64 md, .int .i64 ln, .int .i64 hv, .int .i64 fr, .int .i64 wh, .int .i64 er, .slice A ks.length c, .string tn, .bool kp] := by rw [hw1]; exact (Blk.new _ _ _)
  have HR1 := hide ((HR0.out.below hB1).mono hB1.size)
  clear hw1
  have cT := T.cell
  refine (wakes_any _ (HT.out.below hB1)).mono ?_
  rintro e w2 ⟨rfl, hb2⟩
  have hB2 := hB1.trans (hb2.mono hB1.size)
  replace T := T.below hb2 T.lt
  replace HR1 := hide ((HR1.out.below hb2).mono hb2.size)
  clear cT hb2
  have cT := T.cell
  obtain ⟨sm, hsm⟩ : ∃ b, smallB mt ks tn = b := ⟨_, rfl⟩
  have HSM := hide (fun (kv : Value) (W : World) (h : RdStrs W W.heap.size kv ks) => (small_any mt mk md ln hv fr wh er kv tn kp ks W hmt htn h : Calls Tryd.prog 8 _ _ _))
  rw [hsm] at HSM
  clear hsm
  obtain ⟨mo, hmo⟩ : ∃ b, metaOk mt mk md ln hv fr wh er ks tn = b := ⟨_, rfl⟩
  have HMR := hide (fun (kv : Value) (W : World) (h : RdStrs W W.heap.size kv ks) => (meta_right mt mk md ln hv fr wh er kv tn kp ks W hmt htn h : Calls Tryd.prog 9 _ _ _))
  have HRR := hide (fun (kv : Value) (W : World) (h : RdStrs W W.heap.size kv ks) => (rmeta_right mt mk md ln hv fr wh er kv tn kp ks W hmt htn h : Calls Tryd.prog 10 _ _ _))
  rw [hmo] at HMR HRR
  clear hmo
  have ge : (mo == mo) = true := by simp
  have gj : (joinsB mt mk == joinsB mt mk) = true := by simp
  cases sm
  · go_upto_region 3 with fail
    have qT : ∀ (x : Bel w2.heap.size w2) i, x.w.cell? ⟨w.heap.size, i, none⟩ = (#[.string mt, .bool mk, .int .i64 md, .int .i64 ln, .int .i64 hv, .int .i64 fr, .int .i64 wh, .int .i64 er, .slice A ks.length c, .string tn, .bool kp] : Array Value)[i]? := fun x i => (T.below x.h T.lt).cell i
    have uHR := hide (show ∀ x : Bel w2.heap.size w2, RdStrs x.w x.w.heap.size (.slice A ks.length c) ks from fun x => (HR1.out.below x.h).mono x.h.size)
    clear cT
    refine wp_region_bel w2.heap.size (by kernel_rfl) (by kernel_rfl) ?_
    (repeat (go_big_quiet_step ((first | (go_at_call 8; exact bel_call (Nat.le_refl _) (HSM.out _ _ (uHR.out _))) | (go_at_call 9; exact bel_call (Nat.le_refl _) (HMR.out _ _ (uHR.out _))) | (go_at_call 10; exact bel_call (Nat.le_refl _) (HRR.out _ _ (uHR.out _))) | (go_at_call 11; exact bel_call (Nat.le_refl _) (joins_any mt mk md ln hv fr wh er _ tn kp _ hmt)) | (go_at_call 12; exact bel_call (Nat.le_refl _) (rjoins_any mt mk md ln hv fr wh er _ tn kp _ hmt))))))
    refine wpQuiet_nil ?_
    rintro w9 ⟨⟨_, hb9⟩, rfl⟩
    go_wp2
    go_ret
    exact ⟨rfl, hB2.trans (hb9.mono hB2.size)⟩
  · go_upto_region 3 with fail
    have qT : ∀ (x : Bel w2.heap.size w2) i, x.w.cell? ⟨w.heap.size, i, none⟩ = (#[.string mt, .bool mk, .int .i64 md, .int .i64 ln, .int .i64 hv, .int .i64 fr, .int .i64 wh, .int .i64 er, .slice A ks.length c, .string tn, .bool kp] : Array Value)[i]? := fun x i => (T.below x.h T.lt).cell i
    have uHR := hide (show ∀ x : Bel w2.heap.size w2, RdStrs x.w x.w.heap.size (.slice A ks.length c) ks from fun x => (HR1.out.below x.h).mono x.h.size)
    clear cT
    refine wp_region_bel w2.heap.size (by kernel_rfl) (by kernel_rfl) ?_
    (repeat (go_big_quiet_step ((first | (go_at_call 8; exact bel_call (Nat.le_refl _) (HSM.out _ _ (uHR.out _))) | (go_at_call 9; exact bel_call (Nat.le_refl _) (HMR.out _ _ (uHR.out _))) | (go_at_call 10; exact bel_call (Nat.le_refl _) (HRR.out _ _ (uHR.out _))) | (go_at_call 11; exact bel_call (Nat.le_refl _) (joins_any mt mk md ln hv fr wh er _ tn kp _ hmt)) | (go_at_call 12; exact bel_call (Nat.le_refl _) (rjoins_any mt mk md ln hv fr wh er _ tn kp _ hmt))))))
    refine wpQuiet_nil ?_
    rintro w9 ⟨⟨_, hb9⟩, rfl⟩
    go_wp2
    go_ret
    exact ⟨rfl, hB2.trans (hb9.mono hB2.size)⟩

theorem ps : ∀ t ∈ Tryd.f3.params.toList, Tryd.prog.readableRec t = true ∧ t < Tryd.prog.types.size := by
  rw [Tryd.params3]
  intro t ht
  obtain rfl : t = _ := by simpa using ht
  exact ⟨by kernel_rfl, of_decide_eq_true (by kernel_rfl)⟩

set_option maxRecDepth 100000 in
theorem lifted (os : Os) (started : os.Started) (H : Type) (enc : TypeId × Value → H) :
    ReturnsInHanded {} Tryd.checked os 3 .any (fun w args => (Rows.metaRightSpec.pre enc Tryd.prog Tryd.f3 [] false w args ∧ laidMetH Tryd.prog laidL w) ∧ sizedMet enc Tryd.prog Tryd.f3 (OpenSpec.ofChange Rows.metaRightSpec) false w args) (Rows.metaRightSpec.post enc Tryd.prog Tryd.f3 false true false false) := by
  refine returnsInHanded_of_change_and (C := Tryd.checked) (X := fun w _ => laidMetH Tryd.prog laidL w) (fun _ _ _ hh h => h.of_heap hh) law_own started (by kernel_rfl) Tryd.func3
    (ChangeSpec.witness_shaped (enc := enc) (C := Tryd.checked) (os := os) (X := fun w _ => laidMetH Tryd.prog laidL w) false (World.doorLaid Tryd.prog 400 os) #[.agg #[.string ByteArray.empty, .bool false, .int .i64 0, .int .i64 0, .int .i64 0, .int .i64 0, .int .i64 0, .int .i64 0, .slice none 0 0, .string ByteArray.empty, .bool false]] 8 rfl (World.shaped_of_RefB (by kernel_rfl) (by kernel_rfl)) (by kernel_rfl) (by kernel_rfl) (by kernel_rfl) (door_met os _)) ?_
  intro W base args ds gs before hval0 hW _ hsz hL _
  have hval : ∀ (j : Nat) t v, Tryd.f3.params[j]? = some t → args[j]? = some v → Value.okWide Tryd.prog W .any base t v := hval0
  have hW' := hW
  have hlt : ∀ p ∈ before, p.block < W.heap.size := fun p hp => hW.lt p hp
  obtain ⟨p, q, hA0, hV, rfl, hfz, hnd⟩ := hW
  have hA : DataW.TrodAll enc Tryd.prog W 0 (fun _ => true) true Tryd.f3.params.toList args.toList ds p := hA0
  rw [Tryd.params3] at hA hval
  obtain ⟨v0, vs0, d0, ds0, p0, q0, hargs, rfl, rfl, h0, r0⟩ := trodAll_cons hA
  obtain ⟨rfl, rfl, rfl⟩ := trodAll_nil r0
  obtain rfl : args = #[v0] := by cases args; simp_all
  obtain ⟨rfl, rfl⟩ := trodVars_none hV
  obtain ⟨cs0, fu0, x0, rfl, t0⟩ := open_struct Tryd.underlying26 (hval 0 26 v0 rfl rfl) h0
  obtain ⟨mt, mk, md, ln, hv, fr, wh, er, kv, tn, kp, ks, rfl, hmt, htn, hr⟩ := open_meta t0
  clear hA0 hval0
  refine (walk mt mk md ln hv fr wh er _ tn kp ks W (tab_of_laid hL) hmt htn hr).mono fun e W' ⟨he, hb⟩ => ?_
  subst he
  exact ⟨_, rfl, law_close hW' rfl rfl rfl ps hb⟩

theorem row : Rows.MetaRightSaid :=
  OpenClaim.holds_of_wide 3 Tryd.f3 rfl rfl rfl rfl rfl rfl rfl ⟨rfl, rfl, rfl, rfl, rfl⟩ rfl rfl rfl rfl rfl (by kernel_rfl) Tryd.func3 (by kernel_rfl)
    (of_decide_eq_true (by kernel_rfl)) (by unfold Func.isWrapper; first | (rw [if_pos (by decide +kernel)]; kernel_rfl) | (rw [if_neg (by decide +kernel)]; exact ⟨rfl, rfl⟩))
    (fun os started H enc _ => lifted os started H enc)
theorem proved : Rows.MetaRightCardSaid :=
  Claim7.holds_tied_plain_at .later [] [.data, .data, .data] true (true, "b4a9c889a27dbc13550ee604671a7a5c034765fb2c47d86a7d1c64ca3948f54b") false
    row (fun _ h => by cases h) (by kernel_rfl) (fun _ h => by cases h) metaRight_row_tie rfl ⟨rfl, rfl⟩ (by kernel_rfl) rfl
    (fun f fn hf hfn => by
      obtain rfl : f = 3 := Option.some.inj ((show Tryd.prog.funcNamed "mandoline/mandolinelaw14.MetaRight" = some 3 by kernel_rfl).symm.trans hf) |>.symm
      obtain rfl : fn = Tryd.f3 := (Option.some.inj (Tryd.func3.symm.trans hfn)).symm
      exact ⟨by kernel_rfl, fun j t ht => by
        rw [Tryd.params3] at ht
        have hm : t ∈ [26] := by simpa using Array.mem_of_getElem? ht
        have hall : ([26].all fun u => !Tryd.prog.wantsStandIn u) = true := by kernel_rfl
        exact (show Tryd.prog.wantsStandIn t = false by simpa using List.all_eq_true.1 hall t hm)⟩)
    (by kernel_rfl)
#print axioms proved

end Go.Proofs.YtmelcndflllgmaaDoor.metaRight
