/-
  A chunked body, in chunks of whatever size, however it is dealt, is read as it was, and nothing behind it: for all bytes, sizes and cuts.
-/
import Derived.Test.YtiigkacmahecaaaDoorFrW
import Derived.Test.YtiigkacmahecaaaDoorFrJ
import Derived.Test.YtiigkacmahecaaaDoorGrZ
import Derived.Test.YtiigkacmahecaaaDoorGrL
import Derived.Test.YtiigkacmahecaaaDoorTie
import Derived.Test.YtiigkacmahecaaaDoorCards
import Derived.SevenTiedAt
import Derived.Deep.DeepCutAuto
import Derived.Test.YtiigkacmahecaaaDoorLaidC
import Derived.Test.YtiigkacmahecaaaDoorChkH
namespace Go.Proofs.YtiigkacmahecaaaDoor.frameChunks
open Go.ChangeShapes Go.WideShapes Go.ChangeAt Go.RowKit Go.Deep
set_option linter.unusedVariables false
set_option linter.unusedSimpArgs false

set_option maxRecDepth 100000 in
set_option maxHeartbeats 16000000 in
theorem walk (A : Option Addr) (c : Nat) (bs : List UInt8) (sz : Int) (hz : sz ≤ 9223372036854775807) (K : Option Addr) (e : Nat) (ks : List UInt8) (w : World) (hT : Tab w) (hr : RdB w A c bs) (hk : RdB w K e ks) : Calls Tryd.prog 9 #[.slice A bs.length c, .int .i64 sz, .slice K ks.length e] w (BoolOk true w) := by
  have HR := hide hr.2.2
  have HK := hide hk.2.2
  have HT := hide hT
  have hc0 := hr.1
  have hc2 := hk.1
  have hd0 := hr.2.1
  have hd2 := hk.2.1
  clear hr hk hT
  have hB0 := Below.refl w.heap.size w
  go_enter Tryd.func9, Tryd.ntmps9
  go_wp2_with fail
  refine (awake_any _).mono ?_
  rintro e w1 ⟨rfl, hb1⟩
  have hB1 := hB0.trans (hb1.mono hB0.size)
  by_cases hbs : 200 < bs.length
  · have zbs : (200 : Int) < (bs.length : Int) := by omega
    go_wp2_with fail
    refine (awake_any _).mono ?_
    rintro e w2 ⟨rfl, hb2⟩
    have hB2 := hB1.trans (hb2.mono hB1.size)
    go_wp2_with fail
    go_ret
    exact ⟨rfl, hB2⟩
  · have zbs : ¬ (200 : Int) < (bs.length : Int) := by omega
    by_cases hks : 300 < ks.length
    · have zks : (300 : Int) < (ks.length : Int) := by omega
      go_wp2_with fail
      refine (awake_any _).mono ?_
      rintro e w2 ⟨rfl, hb2⟩
      have hB2 := hB1.trans (hb2.mono hB1.size)
      go_wp2_with fail
      go_ret
      exact ⟨rfl, hB2⟩
    · have zks : ¬ (300 : Int) < (ks.length : Int) := by omega
      have HBY := hide (HR.out (by omega))
      have HBK := hide (HK.out (by omega))
      by_cases hs1 : sz < 1
      · have d1 : decide (sz < 1) = true := decide_eq_true hs1
        go_wp2_with fail
        refine (whole_no _ sz w1 hs1).mono ?_
        rintro e w' ⟨rfl, rfl⟩
        go_wp2_with fail
        go_ret
        exact ⟨rfl, hB1⟩
      · obtain ⟨s, hss⟩ : ∃ s : Nat, sz = (s : Int) + 1 := ⟨(sz - 1).toNat, by omega⟩
        subst hss
        have hs0 : s < 9223372036854775807 := by omega
        clear hz hs1
        go_wp2_with fail
        refine (whole_ok _ bs s w1 (HT.out.below hB1) ((HBY.out.below hB1).mono hB1.size) (by omega) hs0).mono ?_
        rintro e w2 ⟨v2, rfl, ho2, hb2⟩
        have hB2 := hB1.trans (hb2.mono hB1.size)
        have hwl := whole_len s bs.length bs (Nat.le_refl _) (by omega)
        obtain ⟨Wl, hWl⟩ : ∃ l, l = wholeL s bs ++ lastL := ⟨_, rfl⟩
        have hWn : Wl.length ≤ 4000 := by rw [hWl, List.length_append]; simp [lastL]; omega
        have rd := reads_chunk s bs [71, 69, 84, 32, 47] (by omega)
        rw [← hWl] at ho2 rd
        have RD := hide rd
        clear rd hwl hWl
        obtain ⟨A2, c2, hv2, _, _⟩ := (ho2.byt (by omega)).form
        subst hv2
        go_wp2_with fail
        refine (new_yes 2 0 (by unfold okN; omega) w2).mono ?_
        rintro e w3 ⟨g, h, rfl, hg, hh, P, hb3⟩
        change PR w3 g h (Rf.new 2 0) at P
        have hB3 := hB2.trans (hb3.mono hB2.size)
        have lg := Nat.le_trans hB2.size hg
        have lh := Nat.le_trans hB2.size hh
        have HY3 := hide (((ho2.byt (by omega)).below hb3).mono hb3.size)
        have hzz : OwnB w3.heap.size (w3.alloc (.cells #[] 5)) (.slice (some ⟨w3.heap.size, 0, none⟩) 0 0) [] := OwnB.build w3 [] (by simp)
        have hbA : Below w3.heap.size w3 (w3.alloc (.cells #[] 5)) := (Below.refl _ _).alloc (Nat.le_refl _) _
        have HZZ := hide hzz
        have HU1 := hide (HY3.out.below hbA)
        have HL1 := hide (show ([] : List UInt8).length + Wl.length ≤ 140737488355328 by rw [List.length_nil]; omega)
        have HL2 := hide (show ([] ++ Wl).length + (⟨#[71, 69, 84, 32, 47]⟩ : ByteArray).size ≤ 140737488355328 by rw [List.nil_append]; show Wl.length + 5 ≤ _; omega)
        clear hzz ho2
        go_wp2_with (first | (at_builtin; refine wpList_appG rfl (.tmp 49) (.tmp 50) rfl w3.heap.size _ [] rfl HZZ.out (by simp) _ Wl _ rfl HU1.out HL1.out ?_; intro v5 w5 ho5 hg5; have hbl5 : Below w3.heap.size w3 w5 := HZZ.out.belg hbA hg5 (by simp); have HO5 := hide ho5; clear ho5) | (at_builtin; refine wpList_apps w3 rfl (.tmp 51) (.const (.string ⟨#[71, 69, 84, 32, 47]⟩)) rfl w3.heap.size v5 ([] ++ Wl) rfl HO5.out hbl5 hbl5.size _ rfl HL2.out ?_; intro v6 w6 ho6 hbl6 _) | fail)
        have hB6 := hB3.trans (hbl6.mono hB3.size)
        have P6 := P.below hbl6 P.blk.lt P.lt
        have Y6 : Byt w6 w6.heap.size v6 (Wl ++ [71, 69, 84, 32, 47]) := by have := ho6.byt (by rw [List.nil_append, List.length_append]; show Wl.length + 5 ≤ _; omega); rw [List.nil_append] at this; exact this
        have K6 := hide ((HBK.out.below hB6).mono hB6.size)
        refine (read_any RD.out _ _ ks g h w.heap.size w w6 P6 Y6 K6.out (by rw [List.length_append]; show Wl.length + 5 ≤ _; omega) hB6 lg lh hB6.size).mono ?_
        rintro e w7 ⟨t, ht, rfl, P7, hB7, _⟩
        obtain rfl : t = ⟨bs.toArray⟩ := by rw [← ht]
        have hend := RD.out.at_end
        have hinv := RD.out.inv_at Wl.length
        obtain ⟨rr, hrr⟩ : ∃ x, x = atF (Rf.new 2 0) (Wl ++ [71, 69, 84, 32, 47]) Wl.length := ⟨_, rfl⟩
        rw [← hrr] at P7 hend hinv
        have HE1 := hide hend.1
        have HE2 := hide hend.2
        have s7 := run_byt_string w7 _ _ _ ((HBY.out.below hB7).mono hB7.size)
        clear ht hend hrr K6 Y6 P6 P ho6 HO5 HU1 HY3 HZZ hbA
        go_wp2_with fail
        refine (done_frame rr g h w7 P7 hinv).mono ?_
        rintro e w' ⟨rfl, rfl⟩
        rw [HE1.out]
        go_wp2_with fail
        refine (end_frame rr g h w7 P7 hinv).mono ?_
        rintro e w8 ⟨rfl, P8, hb8⟩
        rw [HE2.out]
        have hB8 := hb8.bel hB7 lg lh hB7.size
        go_wp2_with fail
        go_ret
        exact ⟨rfl, hB8⟩

theorem ps : ∀ t ∈ Tryd.f9.params.toList, Tryd.prog.readableRec t = true ∧ t < Tryd.prog.types.size := by
  rw [Tryd.params9]
  intro t ht
  simp at ht
  rcases ht with rfl | rfl | rfl
  all_goals exact ⟨by kernel_rfl, of_decide_eq_true (by kernel_rfl)⟩

set_option maxRecDepth 100000 in
theorem lifted (os : Os) (started : os.Started) (H : Type) (enc : TypeId × Value → H) :
    ReturnsInHanded {} Tryd.checked os 9 .any (fun w args => (Rows.frameChunksSpec.pre enc Tryd.prog Tryd.f9 [] false w args ∧ laidMetH Tryd.prog laidC w) ∧ sizedMet enc Tryd.prog Tryd.f9 (OpenSpec.ofChange Rows.frameChunksSpec) false w args) (Rows.frameChunksSpec.post enc Tryd.prog Tryd.f9 false true false false) := by
  refine returnsInHanded_of_change_and (C := Tryd.checked) (X := fun w _ => laidMetH Tryd.prog laidC w) (fun _ _ _ hh h => h.of_heap hh) law_own started (by kernel_rfl) Tryd.func9
    (ChangeSpec.witness_shaped (enc := enc) (C := Tryd.checked) (os := os) (X := fun w _ => laidMetH Tryd.prog laidC w) false (World.laidAll Tryd.prog os laidC) #[.slice none 0 0, .int .i64 0, .slice none 0 0] 8 (World.laidAll_os _ _ _) (World.shaped_of_ZipB (by kernel_rfl) (by kernel_rfl)) (by kernel_rfl) (by kernel_rfl) (by kernel_rfl) (by rw [MakeChecks.laidMetH_plain _ _ _ (by kernel_rfl)]; exact laidMet_laidAll _ (by kernel_rfl) (by kernel_rfl))) ?_
  intro W base args ds gs before hval0 hW _ hsz hL _
  have hval : ∀ (j : Nat) t v, Tryd.f9.params[j]? = some t → args[j]? = some v → Value.okWide Tryd.prog W .any base t v := hval0
  have hW' := hW
  have hlt : ∀ p ∈ before, p.block < W.heap.size := fun p hp => hW.lt p hp
  obtain ⟨p, q, hA0, hV, rfl, hfz, hnd⟩ := hW
  have hA : DataW.TrodAll enc Tryd.prog W 0 (fun _ => true) true Tryd.f9.params.toList args.toList ds p := hA0
  rw [Tryd.params9] at hA hval
  obtain ⟨v0, vs0, d0, ds0, p0, q0, hargs, rfl, rfl, h0, r0⟩ := trodAll_cons hA
  obtain ⟨v1, vs1, d1, ds1, p1, q1, rfl, rfl, rfl, h1, r1⟩ := trodAll_cons r0
  obtain ⟨v2, vs2, d2, ds2, p2, q2, rfl, rfl, rfl, h2, r2⟩ := trodAll_cons r1
  obtain ⟨rfl, rfl, rfl⟩ := trodAll_nil r2
  obtain rfl : args = #[v0, v1, v2] := by cases args; simp_all
  obtain ⟨rfl, rfl⟩ := trodVars_none hV
  obtain ⟨A, c, bs, rfl, hr⟩ := open_bytes_arg (hval 0 43 v0 rfl rfl) h0
  obtain ⟨sz, rfl, rfl, rfl, wf1⟩ := open_int Tryd.underlying3 (hval 1 3 v1 rfl rfl) h1
  have hz1 : sz ≤ 9223372036854775807 := by
    have k0 : IntKind.i64.min = -9223372036854775808 := by decide
    have k1 : IntKind.i64.max = 9223372036854775807 := by decide
    have := wf1
    simp only [Lit.wf, Bool.and_eq_true, decide_eq_true_eq] at this
    rw [k0, k1] at this
    omega
  obtain ⟨K, e, ks, rfl, hk⟩ := open_bytes_arg (hval 2 43 v2 rfl rfl) h2
  clear hA0 hval0
  refine (walk A c bs sz hz1 K e ks W (tab_of_laid hL) hr hk).mono fun e W' ⟨he, hb⟩ => ?_
  subst he
  exact ⟨_, rfl, law_close hW' rfl rfl rfl ps hb⟩

theorem row : Rows.FrameChunksSaid :=
  OpenClaim.holds_of_wide 9 Tryd.f9 rfl rfl rfl rfl rfl rfl rfl ⟨rfl, rfl, rfl, rfl, rfl⟩ rfl rfl rfl rfl rfl (by kernel_rfl) Tryd.func9 (by kernel_rfl)
    (of_decide_eq_true (by kernel_rfl)) (by unfold Func.isWrapper; first | (rw [if_pos (by decide +kernel)]; kernel_rfl) | (rw [if_neg (by decide +kernel)]; exact ⟨rfl, rfl⟩))
    (fun os started H enc _ => lifted os started H enc)
theorem proved : Rows.FrameChunksCardSaid :=
  Claim7.holds_tied_plain_at .later [] [.data, .data, .data, .data, .pinned] true (true, "87d5f9219f07a079969b4c10c39daa5a43c4b1aaca00ea7f38b869a1054ed3de") false
    row (fun _ h => by cases h) (by kernel_rfl) (fun _ h => by cases h) frameChunks_row_tie rfl ⟨rfl, rfl⟩ (by kernel_rfl) rfl
    (fun f fn hf hfn => by
      obtain rfl : f = 9 := Option.some.inj ((show Tryd.prog.funcNamed "mandoline/mandolinelaw13.FrameChunks" = some 9 by kernel_rfl).symm.trans hf) |>.symm
      obtain rfl : fn = Tryd.f9 := (Option.some.inj (Tryd.func9.symm.trans hfn)).symm
      exact ⟨by kernel_rfl, fun j t ht => by
        rw [Tryd.params9] at ht
        have hm : t ∈ [43, 3, 43] := by simpa using Array.mem_of_getElem? ht
        have hall : ([43, 3, 43].all fun u => !Tryd.prog.wantsStandIn u) = true := by kernel_rfl
        exact (show Tryd.prog.wantsStandIn t = false by simpa using List.all_eq_true.1 hall t hm)⟩)
    (by kernel_rfl)
#print axioms proved

end Go.Proofs.YtiigkacmahecaaaDoor.frameChunks
