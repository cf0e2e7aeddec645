/-
  Any bytes are the chunk, and the body, that the reference says: for all bytes and every size.
-/
import Derived.Test.YteebpclbpclhaaaDoorChkK
import Derived.Test.YteebpclbpclhaaaDoorChkL
import Derived.Test.YteebpclbpclhaaaDoorOpenY
import Derived.Test.YteebpclbpclhaaaDoorLaid
import Derived.Test.YteebpclbpclhaaaDoorLift
import Derived.Test.YteebpclbpclhaaaDoorTie
import Derived.Test.YteebpclbpclhaaaDoorCards
import Derived.SevenTiedAt
import Derived.Stop.Joined
import Derived.Test.YteebpclbpclhaaaDoorChkJ
namespace Go.Proofs.YteebpclbpclhaaaDoor.chunkPuts
open Go.ChangeShapes Go.WideShapes Go.ChangeAt Go.RowKit Go.Deep Go.Lib
set_option linter.unusedVariables false
set_option linter.unusedSimpArgs false

set_option maxRecDepth 100000 in
set_option maxHeartbeats 8000000 in
theorem walk (A : Option Addr) (c : Nat) (bs : List UInt8) (sz : Int) (hz : sz ≤ 9223372036854775807) (w : World) (hT : Tab w) (hr : RdB w A c bs) : Calls Tryd.prog 5 #[.slice A bs.length c, .int .i64 sz] w (TrueB w) := by
  have HT := hide hT
  have HR := hide hr.2.2
  have hc0 := hr.1
  have hc1 := hr.2.1
  clear hr hT
  by_cases hl : 1000 < bs.length
  · have hlz : (1000 : Int) < (bs.length : Int) := by omega
    go_enter Tryd.func5, Tryd.ntmps5
    go_wp2_with fail
    refine (wakes_any _ HT.out).mono ?_
    rintro e w1 ⟨rfl, hb1⟩
    go_wp2_with fail
    go_ret
    exact ⟨rfl, hb1⟩
  · have hlz : ¬ (1000 : Int) < (bs.length : Int) := by omega
    have HBY := hide (HR.out (by omega))
    have HPL := hide (put_len bs (by omega))
    by_cases hs : sz < 1
    · go_enter Tryd.func5, Tryd.ntmps5
      go_wp2_with fail
      refine (wakes_any _ HT.out).mono ?_
      rintro e w1 ⟨rfl, hb1⟩
      go_wp2_with fail
      refine (whole_no _ sz w1 hs).mono ?_
      rintro e w' ⟨rfl, rfl⟩
      go_wp2_with fail
      refine (rwhole_no _ sz w1 hs).mono ?_
      rintro e w' ⟨rfl, rfl⟩
      obtain ⟨w3, hw3⟩ : ∃ w3 : World, w3 = w1 := ⟨_, rfl⟩
      rw [← hw3]
      have hb3 : Below w.heap.size w w3 := by rw [hw3]; exact hb1
      clear hw3
      have HW := hide (Byt.nil w3 w3.heap.size)
      have HX := hide (Byt.nil w3 w3.heap.size)
      go_upto_region 7 with fail
      go_wp2_with fail
      refine (put_chunk _ bs w3 (HT.out.below hb3) ((HBY.out.below hb3).mono hb3.size) (by omega)).mono ?_
      rintro e w4 ⟨v4, rfl, ho4, hbl4⟩
      have hb4 := hb3.trans (hbl4.mono hb3.size)
      have HW4 := hide ((HW.out.below hbl4).mono hbl4.size)
      have HX4 := hide ((HX.out.below hbl4).mono hbl4.size)
      have HP4 := hide (ho4.byt (by have := HPL.out; omega))
      go_wp2_with fail
      refine (rput_chunk _ bs w4 ((HBY.out.below hb4).mono hb4.size) (by omega)).mono ?_
      rintro e w5 ⟨v5, rfl, ho5, hbl5⟩
      have hb5 := hb4.trans (hbl5.mono hb4.size)
      have HW5 := hide ((HW4.out.below hbl5).mono hbl5.size)
      have HX5 := hide ((HX4.out.below hbl5).mono hbl5.size)
      have HP5 := hide ((HP4.out.below hbl5).mono hbl5.size)
      clear ho4
      go_wp2_with fail
      refine (same_any _ _ v4 v5 _ _ w5 HP5.out ho5).mono ?_
      rintro e w' ⟨rfl, rfl⟩
      rw [dec_self]
      clear ho5
      go_wp2_with fail
      refine (last_chunk w5).mono ?_
      rintro e w6 ⟨v6, rfl, ho6, hbl6⟩
      have hb6 := hb5.trans (hbl6.mono hb5.size)
      have HW6 := hide ((HW5.out.below hbl6).mono hbl6.size)
      have HX6 := hide ((HX5.out.below hbl6).mono hbl6.size)
      go_wp2_with fail
      refine (rlast_chunk w6).mono ?_
      rintro e w7 ⟨v7, rfl, ho7, hbl7⟩
      have hb7 := hb6.trans (hbl7.mono hb6.size)
      have HW7 := hide ((HW6.out.below hbl7).mono hbl7.size)
      have HX7 := hide ((HX6.out.below hbl7).mono hbl7.size)
      have HL7 := hide ((ho6.below hbl7).mono hbl7.size)
      clear ho6
      go_wp2_with fail
      refine (same_any _ _ v6 v7 _ _ w7 HL7.out ho7).mono ?_
      rintro e w' ⟨rfl, rfl⟩
      rw [dec_self]
      clear ho7
      go_wp2_with fail
      refine (same_any _ _ _ _ _ _ w7 HW7.out HX7.out).mono ?_
      rintro e w' ⟨rfl, rfl⟩
      rw [dec_self]
      go_wp2_with fail
      go_ret
      exact ⟨rfl, hb7⟩
    · obtain ⟨s, hss⟩ : ∃ s : Nat, sz = (s : Int) + 1 := ⟨(sz - 1).toNat, by omega⟩
      subst hss
      have hs0 := hide (show s < 9223372036854775807 by omega)
      clear hz hs
      go_enter Tryd.func5, Tryd.ntmps5
      go_wp2_with fail
      refine (wakes_any _ HT.out).mono ?_
      rintro e w1 ⟨rfl, hb1⟩
      go_wp2_with fail
      refine (whole_ok _ bs s w1 (HT.out.below hb1) ((HBY.out.below hb1).mono hb1.size) (by omega) hs0.out).mono ?_
      rintro e w2 ⟨v2, rfl, ho2, hbl2⟩
      have hb2 := hb1.trans (hbl2.mono hb1.size)
      go_wp2_with fail
      refine (rwhole_ok _ bs s w2 ((HBY.out.below hb2).mono hb2.size) (by omega) hs0.out).mono ?_
      rintro e w3 ⟨v3, rfl, ho3, hbl3⟩
      have hb3 := hb2.trans (hbl3.mono hb2.size)
      have hwl := whole_len s bs.length bs (Nat.le_refl _) (by omega)
      have hwz : (wholeL s bs ++ lastL).length ≤ 140737488355328 := by simp [lastL]; omega
      have HW := hide (((ho2.byt hwz).below hbl3).mono hbl3.size)
      have HX := hide (ho3.byt hwz)
      clear ho2 ho3 hwl hwz
      go_upto_region 7 with fail
      go_wp2_with fail
      refine (put_chunk _ bs w3 (HT.out.below hb3) ((HBY.out.below hb3).mono hb3.size) (by omega)).mono ?_
      rintro e w4 ⟨v4, rfl, ho4, hbl4⟩
      have hb4 := hb3.trans (hbl4.mono hb3.size)
      have HW4 := hide ((HW.out.below hbl4).mono hbl4.size)
      have HX4 := hide ((HX.out.below hbl4).mono hbl4.size)
      have HP4 := hide (ho4.byt (by have := HPL.out; omega))
      go_wp2_with fail
      refine (rput_chunk _ bs w4 ((HBY.out.below hb4).mono hb4.size) (by omega)).mono ?_
      rintro e w5 ⟨v5, rfl, ho5, hbl5⟩
      have hb5 := hb4.trans (hbl5.mono hb4.size)
      have HW5 := hide ((HW4.out.below hbl5).mono hbl5.size)
      have HX5 := hide ((HX4.out.below hbl5).mono hbl5.size)
      have HP5 := hide ((HP4.out.below hbl5).mono hbl5.size)
      clear ho4
      go_wp2_with fail
      refine (same_any _ _ v4 v5 _ _ w5 HP5.out ho5).mono ?_
      rintro e w' ⟨rfl, rfl⟩
      rw [dec_self]
      clear ho5
      go_wp2_with fail
      refine (last_chunk w5).mono ?_
      rintro e w6 ⟨v6, rfl, ho6, hbl6⟩
      have hb6 := hb5.trans (hbl6.mono hb5.size)
      have HW6 := hide ((HW5.out.below hbl6).mono hbl6.size)
      have HX6 := hide ((HX5.out.below hbl6).mono hbl6.size)
      go_wp2_with fail
      refine (rlast_chunk w6).mono ?_
      rintro e w7 ⟨v7, rfl, ho7, hbl7⟩
      have hb7 := hb6.trans (hbl7.mono hb6.size)
      have HW7 := hide ((HW6.out.below hbl7).mono hbl7.size)
      have HX7 := hide ((HX6.out.below hbl7).mono hbl7.size)
      have HL7 := hide ((ho6.below hbl7).mono hbl7.size)
      clear ho6
      go_wp2_with fail
      refine (same_any _ _ v6 v7 _ _ w7 HL7.out ho7).mono ?_
      rintro e w' ⟨rfl, rfl⟩
      rw [dec_self]
      clear ho7
      go_wp2_with fail
      refine (same_any _ _ v2 v3 _ _ w7 HW7.out HX7.out).mono ?_
      rintro e w' ⟨rfl, rfl⟩
      rw [dec_self]
      go_wp2_with fail
      go_ret
      exact ⟨rfl, hb7⟩

theorem ps : ∀ t ∈ Tryd.f5.params.toList, Tryd.prog.readableRec t = true ∧ t < Tryd.prog.types.size := by
  rw [Tryd.params5]
  intro t ht
  simp at ht
  rcases ht with rfl | rfl
  all_goals exact ⟨by kernel_rfl, of_decide_eq_true (by kernel_rfl)⟩

set_option maxRecDepth 100000 in
theorem lifted (os : Os) (started : os.Started) (H : Type) (enc : TypeId × Value → H) :
    ReturnsInHanded {} Tryd.checked os 5 .any (fun w args => (Rows.chunkPutsSpec.pre enc Tryd.prog Tryd.f5 [] false w args ∧ laidMetH Tryd.prog laidL w) ∧ sizedMet enc Tryd.prog Tryd.f5 (OpenSpec.ofChange Rows.chunkPutsSpec) false w args) (Rows.chunkPutsSpec.post enc Tryd.prog Tryd.f5 false true false false) := by
  refine returnsInHanded_of_change_and (C := Tryd.checked) (X := fun w _ => laidMetH Tryd.prog laidL w) (fun _ _ _ hh h => h.of_heap hh) law_own started (by kernel_rfl) Tryd.func5
    (ChangeSpec.witness_shaped (enc := enc) (C := Tryd.checked) (os := os) (X := fun w _ => laidMetH Tryd.prog laidL w) false (World.doorLaid Tryd.prog 400 os) #[.slice none 0 0, .int .i64 0] 8 rfl (World.shaped_of_RefB (by kernel_rfl) (by kernel_rfl)) (by kernel_rfl) (by kernel_rfl) (by kernel_rfl) (door_met os _)) ?_
  intro W base args ds gs before hval0 hW _ _ hL _
  have hval : ∀ (j : Nat) t v, Tryd.f5.params[j]? = some t → args[j]? = some v → Value.okWide Tryd.prog W .any base t v := hval0
  have hW' := hW
  have hlt : ∀ p ∈ before, p.block < W.heap.size := fun p hp => hW.lt p hp
  obtain ⟨p, q, hA0, hV, rfl, hfz, hnd⟩ := hW
  have hA : DataW.TrodAll enc Tryd.prog W 0 (fun _ => true) true Tryd.f5.params.toList args.toList ds p := hA0
  rw [Tryd.params5] at hA hval
  obtain ⟨v0, vs0, d0, ds0, p0, q0, hargs, rfl, rfl, h0, r0⟩ := trodAll_cons hA
  obtain ⟨v1, vs1, d1, ds1, p1, q1, rfl, rfl, rfl, h1, r1⟩ := trodAll_cons r0
  obtain ⟨rfl, rfl, rfl⟩ := trodAll_nil r1
  obtain rfl : args = #[v0, v1] := by cases args; simp_all
  obtain ⟨rfl, rfl⟩ := trodVars_none hV
  obtain ⟨A, c, bs, rfl, hr⟩ := open_bytes_arg (hval 0 24 v0 rfl rfl) h0
  obtain ⟨sz, rfl, rfl, rfl, wf1⟩ := open_int Tryd.underlying3 (hval 1 3 v1 rfl rfl) h1
  have hz1 : sz ≤ 9223372036854775807 := by
    have k0 : IntKind.i64.min = -9223372036854775808 := by decide
    have k1 : IntKind.i64.max = 9223372036854775807 := by decide
    have := wf1
    simp only [Lit.wf, Bool.and_eq_true, decide_eq_true_eq] at this
    rw [k0, k1] at this
    omega
  clear hA0 hval0
  refine (walk A c bs sz hz1 W (tab_of_laid hL) hr).mono fun e W' ⟨he, hb⟩ => ?_
  subst he
  exact ⟨_, rfl, law_close hW' rfl rfl rfl ps hb⟩

theorem row : Rows.ChunkPutsSaid :=
  OpenClaim.holds_of_wide 5 Tryd.f5 rfl rfl rfl rfl rfl rfl rfl ⟨rfl, rfl, rfl, rfl, rfl⟩ rfl rfl rfl rfl rfl (by kernel_rfl) Tryd.func5 (by kernel_rfl)
    (of_decide_eq_true (by kernel_rfl)) (by unfold Func.isWrapper; first | (rw [if_pos (by decide +kernel)]; kernel_rfl) | (rw [if_neg (by decide +kernel)]; exact ⟨rfl, rfl⟩))
    (fun os started H enc _ => lifted os started H enc)
theorem proved : Rows.ChunkPutsCardSaid :=
  Claim7.holds_tied_plain_at .later [] [.data, .data, .data] true (true, "f987a4a0396fff2785e1ad74cfe65f009dd0aa7f232beab4135b1c0ac7259b95") false
    row (fun _ h => by cases h) (by kernel_rfl) (fun _ h => by cases h) chunkPuts_row_tie rfl ⟨rfl, rfl⟩ (by kernel_rfl) rfl
    (fun f fn hf hfn => by
      obtain rfl : f = 5 := Option.some.inj ((show Tryd.prog.funcNamed "mandoline/mandolinelaw10.ChunkPuts" = some 5 by kernel_rfl).symm.trans hf) |>.symm
      obtain rfl : fn = Tryd.f5 := (Option.some.inj (Tryd.func5.symm.trans hfn)).symm
      exact ⟨by kernel_rfl, fun j t ht => by
        rw [Tryd.params5] at ht
        have hm : t ∈ [24, 3] := by simpa using Array.mem_of_getElem? ht
        have hall : ([24, 3].all fun u => !Tryd.prog.wantsStandIn u) = true := by kernel_rfl
        exact (show Tryd.prog.wantsStandIn t = false by simpa using List.all_eq_true.1 hall t hm)⟩)
    (by kernel_rfl)
#print axioms proved

end Go.Proofs.YteebpclbpclhaaaDoor.chunkPuts
