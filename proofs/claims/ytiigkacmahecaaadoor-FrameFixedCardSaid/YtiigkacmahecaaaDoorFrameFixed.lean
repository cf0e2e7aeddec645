/-
  A body of so many bytes, however it is dealt, is read as it was, and nothing behind it: for all bytes and cuts.
-/
import Derived.Test.YtiigkacmahecaaaDoorFrW
import Derived.Test.YtiigkacmahecaaaDoorFrJ
import Derived.Test.YtiigkacmahecaaaDoorGrZ
import Derived.Test.YtiigkacmahecaaaDoorGrL
import Derived.Test.YtiigkacmahecaaaDoorTie
import Derived.Test.YtiigkacmahecaaaDoorCards
import Derived.SevenTiedAt
import Derived.Deep.DeepCutAuto
namespace Go.Proofs.YtiigkacmahecaaaDoor.frameFixed
open Go.ChangeShapes Go.WideShapes Go.ChangeAt Go.RowKit Go.Deep
set_option linter.unusedVariables false
set_option linter.unusedSimpArgs false

set_option maxRecDepth 100000 in
set_option maxHeartbeats 16000000 in
theorem walk (A : Option Addr) (c : Nat) (bs : List UInt8) (M : Option Addr) (d : Nat) (ms : List UInt8) (K : Option Addr) (e : Nat) (ks : List UInt8) (w : World) (hr : RdB w A c bs) (hm : RdB w M d ms) (hk : RdB w K e ks) : Calls Tryd.prog 5 #[.slice A bs.length c, .slice M ms.length d, .slice K ks.length e] w (BoolOk true w) := by
  have HR := hide hr.2.2
  have HM := hide hm.2.2
  have HK := hide hk.2.2
  have hc0 := hr.1
  have hc1 := hm.1
  have hc2 := hk.1
  have hd0 := hr.2.1
  have hd1 := hm.2.1
  have hd2 := hk.2.1
  clear hr hm hk
  have hB0 := Below.refl w.heap.size w
  go_enter Tryd.func5, Tryd.ntmps5
  go_wp2_with fail
  refine (awake_any _).mono ?_
  rintro e w1 ⟨rfl, hb1⟩
  have hB1 := hB0.trans (hb1.mono hB0.size)
  by_cases hbs : 200 < bs.length
  · have zbs : (200 : Int) < (bs.length : Int) := by omega
    go_wp2_with fail
    refine (awake_any _).mono ?_
    rintro e w2 ⟨rfl, hb2⟩
    have hB2 := hB1.trans (hb2.mono hB1.size)
    go_wp2_with fail
    go_ret
    exact ⟨rfl, hB2⟩
  · have zbs : ¬ (200 : Int) < (bs.length : Int) := by omega
    by_cases hms : 50 < ms.length
    · have zms : (50 : Int) < (ms.length : Int) := by omega
      go_wp2_with fail
      refine (awake_any _).mono ?_
      rintro e w2 ⟨rfl, hb2⟩
      have hB2 := hB1.trans (hb2.mono hB1.size)
      go_wp2_with fail
      go_ret
      exact ⟨rfl, hB2⟩
    · have zms : ¬ (50 : Int) < (ms.length : Int) := by omega
      by_cases hks : 200 < ks.length
      · have zks : (200 : Int) < (ks.length : Int) := by omega
        go_wp2_with fail
        refine (awake_any _).mono ?_
        rintro e w2 ⟨rfl, hb2⟩
        have hB2 := hB1.trans (hb2.mono hB1.size)
        go_wp2_with fail
        go_ret
        exact ⟨rfl, hB2⟩
      · have zks : ¬ (200 : Int) < (ks.length : Int) := by omega
        have HBY := hide (HR.out (by omega))
        have HBM := hide (HM.out (by omega))
        have HBK := hide (HK.out (by omega))
        go_wp2_with fail
        refine (new_yes 1 (bs.length : Int) (by unfold okN; omega) w1).mono ?_
        rintro e w2 ⟨g, h, rfl, hg, hh, P, hb2⟩
        change PR w2 g h (Rf.new 1 bs.length) at P
        have hB2 := hB1.trans (hb2.mono hB1.size)
        have lg := Nat.le_trans hB1.size hg
        have lh := Nat.le_trans hB1.size hh
        have HY2 := hide ((HBY.out.below hB2).mono hB2.size)
        have HM2 := hide ((HBM.out.below hB2).mono hB2.size)
        have hzz : OwnB w2.heap.size (w2.alloc (.cells #[] 5)) (.slice (some ⟨w2.heap.size, 0, none⟩) 0 0) [] := OwnB.build w2 [] (by simp)
        have hbA : Below w2.heap.size w2 (w2.alloc (.cells #[] 5)) := (Below.refl _ _).alloc (Nat.le_refl _) _
        have HZZ := hide hzz
        have HU1 := hide (HY2.out.below hbA)
        have HL1 := hide (show ([] : List UInt8).length + bs.length ≤ 140737488355328 by rw [List.length_nil]; omega)
        have HL2 := hide (show ([] ++ bs).length + ms.length ≤ 140737488355328 by rw [List.nil_append]; omega)
        clear hzz
        go_wp2_with (first | (at_builtin; refine wpList_appG rfl (.tmp 44) (.tmp 45) rfl w2.heap.size _ [] rfl HZZ.out (by simp) _ bs _ rfl HU1.out HL1.out ?_; intro v5 w5 ho5 hg5; have hbl5 : Below w2.heap.size w2 w5 := HZZ.out.belg hbA hg5 (by simp); have HU2 := hide (HM2.out.below hbl5); have HO5 := hide ho5; clear ho5) | (at_builtin; refine wpList_appG rfl (.tmp 46) (.tmp 47) rfl w2.heap.size v5 ([] ++ bs) rfl HO5.out hbl5.size _ ms _ rfl HU2.out HL2.out ?_; intro v6 w6 ho6 hg6; have hbl6 : Below w2.heap.size w2 w6 := HO5.out.belg hbl5 hg6 hbl5.size) | fail)
        have hB6 := hB2.trans (hbl6.mono hB2.size)
        have P6 := P.below hbl6 P.blk.lt P.lt
        have Y6 := ho6.byt (by simp; omega)
        rw [List.nil_append] at Y6
        have K6 := hide ((HBK.out.below hB6).mono hB6.size)
        have RD := hide (reads_fixed bs ms (by omega))
        refine (read_any RD.out _ _ ks g h w.heap.size w w6 P6 Y6 K6.out (by rw [List.length_append]; omega) hB6 lg lh hB6.size).mono ?_
        rintro e w7 ⟨s, hs, rfl, P7, hB7, _⟩
        obtain rfl : s = ⟨bs.toArray⟩ := by rw [← hs]
        have hend := RD.out.at_end
        have hinv := RD.out.inv_at bs.length
        obtain ⟨rr, hrr⟩ : ∃ x, x = atF (Rf.new 1 bs.length) (bs ++ ms) bs.length := ⟨_, rfl⟩
        rw [← hrr] at P7 hend hinv
        have HE1 := hide hend.1
        have HE2 := hide hend.2
        have s7 := run_byt_string w7 _ _ _ ((HBY.out.below hB7).mono hB7.size)
        clear hs hend hrr K6 Y6 P6 P ho6 hg6 HO5 HU2 HY2 HM2 HZZ hbA
        go_wp2_with fail
        refine (done_frame rr g h w7 P7 hinv).mono ?_
        rintro e w' ⟨rfl, rfl⟩
        rw [HE1.out]
        go_wp2_with fail
        refine (end_frame rr g h w7 P7 hinv).mono ?_
        rintro e w8 ⟨rfl, P8, hb8⟩
        rw [HE2.out]
        have hB8 := hb8.bel hB7 lg lh hB7.size
        go_wp2_with fail
        go_ret
        exact ⟨rfl, hB8⟩

theorem ps : ∀ t ∈ Tryd.f5.params.toList, Tryd.prog.readableRec t = true ∧ t < Tryd.prog.types.size := by
  rw [Tryd.params5]
  intro t ht
  simp at ht
  subst ht
  all_goals exact ⟨by kernel_rfl, of_decide_eq_true (by kernel_rfl)⟩

set_option maxRecDepth 100000 in
theorem lifted (os : Os) (started : os.Started) (H : Type) (enc : TypeId × Value → H) :
    ReturnsInHanded {} Tryd.checked os 5 .any (fun w args => (Rows.frameFixedSpec.pre enc Tryd.prog Tryd.f5 [] false w args ∧ laidMetH Tryd.prog laidL w) ∧ sizedMet enc Tryd.prog Tryd.f5 (OpenSpec.ofChange Rows.frameFixedSpec) false w args) (Rows.frameFixedSpec.post enc Tryd.prog Tryd.f5 false true false false) := by
  refine returnsInHanded_of_change_and (C := Tryd.checked) (X := fun w _ => laidMetH Tryd.prog laidL w) (fun _ _ _ hh h => h.of_heap hh) law_own started (by kernel_rfl) Tryd.func5
    (ChangeSpec.witness_shaped (enc := enc) (C := Tryd.checked) (os := os) (X := fun w _ => laidMetH Tryd.prog laidL w) false (World.laidAll Tryd.prog os laidL) #[.slice none 0 0, .slice none 0 0, .slice none 0 0] 8 (World.laidAll_os _ _ _) (World.shaped_of_ZipB (by kernel_rfl) (by kernel_rfl)) (by kernel_rfl) (by kernel_rfl) (by kernel_rfl) (by rw [MakeChecks.laidMetH_plain _ _ _ (by kernel_rfl)]; exact laidMet_laidAll _ (by kernel_rfl) (by kernel_rfl))) ?_
  intro W base args ds gs before hval0 hW _ hsz hL _
  have hval : ∀ (j : Nat) t v, Tryd.f5.params[j]? = some t → args[j]? = some v → Value.okWide Tryd.prog W .any base t v := hval0
  have hW' := hW
  have hlt : ∀ p ∈ before, p.block < W.heap.size := fun p hp => hW.lt p hp
  obtain ⟨p, q, hA0, hV, rfl, hfz, hnd⟩ := hW
  have hA : DataW.TrodAll enc Tryd.prog W 0 (fun _ => true) true Tryd.f5.params.toList args.toList ds p := hA0
  rw [Tryd.params5] at hA hval
  obtain ⟨v0, vs0, d0, ds0, p0, q0, hargs, rfl, rfl, h0, r0⟩ := trodAll_cons hA
  obtain ⟨v1, vs1, d1, ds1, p1, q1, rfl, rfl, rfl, h1, r1⟩ := trodAll_cons r0
  obtain ⟨v2, vs2, d2, ds2, p2, q2, rfl, rfl, rfl, h2, r2⟩ := trodAll_cons r1
  obtain ⟨rfl, rfl, rfl⟩ := trodAll_nil r2
  obtain rfl : args = #[v0, v1, v2] := by cases args; simp_all
  obtain ⟨rfl, rfl⟩ := trodVars_none hV
  obtain ⟨A, c, bs, rfl, hr⟩ := open_bytes_arg (hval 0 43 v0 rfl rfl) h0
  obtain ⟨M, d, ms, rfl, hm⟩ := open_bytes_arg (hval 1 43 v1 rfl rfl) h1
  obtain ⟨K, e, ks, rfl, hk⟩ := open_bytes_arg (hval 2 43 v2 rfl rfl) h2
  clear hA0 hval0
  refine (walk A c bs M d ms K e ks W hr hm hk).mono fun e W' ⟨he, hb⟩ => ?_
  subst he
  exact ⟨_, rfl, law_close hW' rfl rfl rfl ps hb⟩

theorem row : Rows.FrameFixedSaid :=
  OpenClaim.holds_of_wide 5 Tryd.f5 rfl rfl rfl rfl rfl rfl rfl ⟨rfl, rfl, rfl, rfl, rfl⟩ rfl rfl rfl rfl rfl (by kernel_rfl) Tryd.func5 (by kernel_rfl)
    (of_decide_eq_true (by kernel_rfl)) (by unfold Func.isWrapper; first | (rw [if_pos (by decide +kernel)]; kernel_rfl) | (rw [if_neg (by decide +kernel)]; exact ⟨rfl, rfl⟩))
    (fun os started H enc _ => lifted os started H enc)
theorem proved : Rows.FrameFixedCardSaid :=
  Claim7.holds_tied_plain_at .later [] [.data, .pinned] true (true, "87d5f9219f07a079969b4c10c39daa5a43c4b1aaca00ea7f38b869a1054ed3de") false
    row (fun _ h => by cases h) (by kernel_rfl) (fun _ h => by cases h) frameFixed_row_tie rfl ⟨rfl, rfl⟩ (by kernel_rfl) rfl
    (fun f fn hf hfn => by
      obtain rfl : f = 5 := Option.some.inj ((show Tryd.prog.funcNamed "mandoline/mandolinelaw13.FrameFixed" = some 5 by kernel_rfl).symm.trans hf) |>.symm
      obtain rfl : fn = Tryd.f5 := (Option.some.inj (Tryd.func5.symm.trans hfn)).symm
      exact ⟨by kernel_rfl, fun j t ht => by
        rw [Tryd.params5] at ht
        have hm : t ∈ [43, 43, 43] := by simpa using Array.mem_of_getElem? ht
        have hall : ([43, 43, 43].all fun u => !Tryd.prog.wantsStandIn u) = true := by kernel_rfl
        exact (show Tryd.prog.wantsStandIn t = false by simpa using List.all_eq_true.1 hall t hm)⟩)
    (by kernel_rfl)
#print axioms proved

end Go.Proofs.YtiigkacmahecaaaDoor.frameFixed
