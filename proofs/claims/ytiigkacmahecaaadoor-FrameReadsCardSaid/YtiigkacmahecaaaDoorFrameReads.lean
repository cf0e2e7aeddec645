/-
  Of any body, whatever bytes come, piece by piece, just those are its that the document says, and its end is where it says: for every kind, size and list of pieces.
-/
import Derived.Test.YtiigkacmahecaaaDoorFrP
import Derived.Test.YtiigkacmahecaaaDoorFrK
import Derived.Test.YtiigkacmahecaaaDoorFrW
import Derived.Test.YtiigkacmahecaaaDoorFrJ
import Derived.Test.YtiigkacmahecaaaDoorGrL
import Derived.Test.YtiigkacmahecaaaDoorTie
import Derived.Test.YtiigkacmahecaaaDoorCards
import Derived.SevenTiedAt
import Derived.Deep.DeepCutAuto
namespace Go.Proofs.YtiigkacmahecaaaDoor.frameReads
open Go.ChangeShapes Go.WideShapes Go.ChangeAt Go.RowKit Go.Deep
set_option linter.unusedVariables false
set_option linter.unusedSimpArgs false

theorem rdbb_below {w w1 : World} {A : Option Addr} {c : Nat} {ls : List BsZ} (h : RdBB w A c ls) (hb : Below w.heap.size w w1) : RdBB w1 A c ls := by
  refine ⟨h.1, fun i hi => ?_⟩
  obtain ⟨b, off, e, hlt, hc, hrb, hz⟩ := h.2 i hi
  exact ⟨b, off, e, Nat.lt_of_lt_of_le hlt hb.size, by rw [hb.cell (show b < w.heap.size from hlt)]; exact hc, ⟨hrb.1, hrb.2.1, fun hl => ((hrb.2.2 hl).below hb).mono hb.size⟩, hz⟩
theorem bytes_eta (x : ByteArray) : (⟨x.data.toList.toArray⟩ : ByteArray) = x := by simp

set_option maxRecDepth 100000 in
set_option maxHeartbeats 16000000 in
theorem walk (kd sz : Int) (A : Option Addr) (c : Nat) (ls : List BsZ) (w : World) (hr : RdBB w A c ls) : Calls Tryd.prog 4 #[.int .i64 kd, .int .i64 sz, .slice A ls.length c] w (BoolOk true w) := by
  go_enter Tryd.func4, Tryd.ntmps4
  go_wp2_with fail
  have hB0 : Below w.heap.size w w := Below.refl _ _
  refine (awake_any _).mono ?_
  rintro e w1 ⟨rfl, hb1⟩
  have hB1 := hB0.trans (hb1.mono hB0.size)
  clear hb1 hB0
  go_wp2_with fail
  refine (great13_any A c ls w1 (rdbb_below hr hB1)).mono ?_
  rintro e w' ⟨r, rfl, rfl, hg⟩
  cases r
  · have hsum := hg rfl
    clear hg
    by_cases hok : okN kd sz
    · go_wp2_with fail
      refine (new_yes kd sz hok w1).mono ?_
      rintro e w3 ⟨g, h, rfl, hg, hh, P3, hb3⟩
      have hB3 := hB1.trans (hb3.mono hB1.size)
      have lg := Nat.le_trans hB1.size hg
      have lh := Nat.le_trans hB1.size hh
      have l3 := P3.blk.lt
      have l3h := P3.lt
      go_wp2_with fail
      refine (mnew_yes kd sz hok w3).mono ?_
      rintro e w4 ⟨m, rfl, hm, M4, hb4⟩
      have lm := Nat.le_trans hB3.size hm
      have n1 : m ≠ g := by omega
      have n2 : m ≠ h := by omega
      have P4 := P3.below hb4 l3 l3h
      have hB4 := hB3.trans (hb4.mono hB3.size)
      have hinv : invF (Rf.new kd.toNat sz.toNat) := inv_new (by have := hok.1; omega) (by have := hok.2; omega)
      obtain ⟨r0, hr0⟩ : ∃ x, x = Rf.new kd.toNat sz.toNat := ⟨_, rfl⟩
      rw [← hr0] at P4 M4 hinv
      clear hr0 hok hb4 hm l3 l3h P3 hB3 hg hh hb3
      obtain ⟨dv5, hdv⟩ : ∃ z, z = doneF r0 := ⟨_, rfl⟩
      have D1 := done_frame r0 g h w4 P4 hinv
      have D2 := mdone_any r0 m w4 M4 hinv
      rw [← hdv] at D1 D2
      have HD1 := hide D1
      have HD2 := hide D2
      clear hdv D1 D2
      go_wp2_with fail
      refine HD1.out.mono ?_
      rintro e w' ⟨rfl, rfl⟩
      go_wp2_with fail
      refine HD2.out.mono ?_
      rintro e w5 ⟨rfl, hb⟩
      have P5 := P4.below hb P4.blk.lt P4.lt
      have M5 := M4.below hb M4.lt
      have hB5 := hB4.trans (hb.mono hB4.size)
      clear hb HD1 HD2
      cases dv5
      · go_wp2_with fail
        refine (both_any r0 g h m A c ls w w5 hr hsum hB5 lg lh lm n1 n2 P5 M5 hinv).mono ?_
        rintro e w6 ⟨r6, rfl, P6, M6, I6, hB6⟩
        go_wp2_with fail
        refine (end_frame r6 g h w6 P6 I6).mono ?_
        rintro e w7 ⟨rfl, P7, hb7⟩
        have hB7 := hb7.bel hB6 lg lh hB6.size
        have M7 := M6.but2 hb7 n1 n2
        go_wp2_with fail
        refine (mend_any r6 m w7 M7 I6).mono ?_
        rintro e w8 ⟨rfl, M8, hb8⟩
        have hB8 := hb8.bel hB7 lm hB7.size
        have P8 := P7.but hb8 n1.symm n2.symm
        generalize endE r6 = ee
        have I8 := inv_endF I6
        generalize endF r6 = r8 at P8 M8 I8
        clear P7 M7 hb7 hb8 P6 M6
        obtain ⟨dv9, hdv⟩ : ∃ z, z = doneF r8 := ⟨_, rfl⟩
        have D1 := done_frame r8 g h w8 P8 I8
        have D2 := mdone_any r8 m w8 M8 I8
        rw [← hdv] at D1 D2
        have HD1 := hide D1
        have HD2 := hide D2
        clear hdv D1 D2
        go_wp2_with fail
        refine HD1.out.mono ?_
        rintro e w' ⟨rfl, rfl⟩
        go_wp2_with fail
        refine HD2.out.mono ?_
        rintro e w9 ⟨rfl, hb⟩
        have P9 := P8.below hb P8.blk.lt P8.lt
        have M9 := M8.below hb M8.lt
        have hB9 := hB8.trans (hb.mono hB8.size)
        clear hb HD1 HD2
        cases dv9
        · go_wp2_with fail
          refine (both_any r8 g h m A c ls w w9 hr hsum hB9 lg lh lm n1 n2 P9 M9 I8).mono ?_
          rintro e w10 ⟨r10, rfl, P10, M10, I10, hB10⟩
          go_wp2_with fail
          go_ret
          exact ⟨rfl, hB10⟩
        · go_wp2_with fail
          refine (both_any r8 g h m A c ls w w9 hr hsum hB9 lg lh lm n1 n2 P9 M9 I8).mono ?_
          rintro e w10 ⟨r10, rfl, P10, M10, I10, hB10⟩
          go_wp2_with fail
          go_ret
          exact ⟨rfl, hB10⟩
      · go_wp2_with fail
        refine (both_any r0 g h m A c ls w w5 hr hsum hB5 lg lh lm n1 n2 P5 M5 hinv).mono ?_
        rintro e w6 ⟨r6, rfl, P6, M6, I6, hB6⟩
        go_wp2_with fail
        refine (end_frame r6 g h w6 P6 I6).mono ?_
        rintro e w7 ⟨rfl, P7, hb7⟩
        have hB7 := hb7.bel hB6 lg lh hB6.size
        have M7 := M6.but2 hb7 n1 n2
        go_wp2_with fail
        refine (mend_any r6 m w7 M7 I6).mono ?_
        rintro e w8 ⟨rfl, M8, hb8⟩
        have hB8 := hb8.bel hB7 lm hB7.size
        have P8 := P7.but hb8 n1.symm n2.symm
        generalize endE r6 = ee
        have I8 := inv_endF I6
        generalize endF r6 = r8 at P8 M8 I8
        clear P7 M7 hb7 hb8 P6 M6
        obtain ⟨dv9, hdv⟩ : ∃ z, z = doneF r8 := ⟨_, rfl⟩
        have D1 := done_frame r8 g h w8 P8 I8
        have D2 := mdone_any r8 m w8 M8 I8
        rw [← hdv] at D1 D2
        have HD1 := hide D1
        have HD2 := hide D2
        clear hdv D1 D2
        go_wp2_with fail
        refine HD1.out.mono ?_
        rintro e w' ⟨rfl, rfl⟩
        go_wp2_with fail
        refine HD2.out.mono ?_
        rintro e w9 ⟨rfl, hb⟩
        have P9 := P8.below hb P8.blk.lt P8.lt
        have M9 := M8.below hb M8.lt
        have hB9 := hB8.trans (hb.mono hB8.size)
        clear hb HD1 HD2
        cases dv9
        · go_wp2_with fail
          refine (both_any r8 g h m A c ls w w9 hr hsum hB9 lg lh lm n1 n2 P9 M9 I8).mono ?_
          rintro e w10 ⟨r10, rfl, P10, M10, I10, hB10⟩
          go_wp2_with fail
          go_ret
          exact ⟨rfl, hB10⟩
        · go_wp2_with fail
          refine (both_any r8 g h m A c ls w w9 hr hsum hB9 lg lh lm n1 n2 P9 M9 I8).mono ?_
          rintro e w10 ⟨r10, rfl, P10, M10, I10, hB10⟩
          go_wp2_with fail
          go_ret
          exact ⟨rfl, hB10⟩
    · go_wp2_with fail
      refine (new_no kd sz hok w1).mono ?_
      rintro e w' ⟨rfl, rfl⟩
      go_wp2_with fail
      refine (mnew_no kd sz hok w1).mono ?_
      rintro e w' ⟨rfl, rfl⟩
      go_wp2_with fail
      go_ret
      exact ⟨rfl, hB1⟩
  · go_wp2_with fail
    refine (awake_any _).mono ?_
    rintro e w2 ⟨rfl, hb2⟩
    have hB2 := hB1.trans (hb2.mono hB1.size)
    go_wp2_with fail
    go_ret
    exact ⟨rfl, hB2⟩

theorem ps : ∀ t ∈ Tryd.f4.params.toList, Tryd.prog.readableRec t = true ∧ t < Tryd.prog.types.size := by
  rw [Tryd.params4]
  intro t ht
  simp at ht
  rcases ht with rfl | rfl | rfl
  all_goals exact ⟨by kernel_rfl, of_decide_eq_true (by kernel_rfl)⟩

set_option maxRecDepth 100000 in
theorem lifted (os : Os) (started : os.Started) (H : Type) (enc : TypeId × Value → H) :
    ReturnsInHanded {} Tryd.checked os 4 .any (fun w args => (Rows.frameReadsSpec.pre enc Tryd.prog Tryd.f4 [] false w args ∧ laidMetH Tryd.prog laidL w) ∧ sizedMet enc Tryd.prog Tryd.f4 (OpenSpec.ofChange Rows.frameReadsSpec) false w args) (Rows.frameReadsSpec.post enc Tryd.prog Tryd.f4 false true false false) := by
  refine returnsInHanded_of_change_and (C := Tryd.checked) (X := fun w _ => laidMetH Tryd.prog laidL w) (fun _ _ _ hh h => h.of_heap hh) law_own started (by kernel_rfl) Tryd.func4
    (ChangeSpec.witness_shaped (enc := enc) (C := Tryd.checked) (os := os) (X := fun w _ => laidMetH Tryd.prog laidL w) false (World.laidAll Tryd.prog os laidL) #[.int .i64 0, .int .i64 0, .slice none 0 0] 8 (World.laidAll_os _ _ _) (World.shaped_of_ZipB (by kernel_rfl) (by kernel_rfl)) (by kernel_rfl) (by kernel_rfl) (by kernel_rfl) (by rw [MakeChecks.laidMetH_plain _ _ _ (by kernel_rfl)]; exact laidMet_laidAll _ (by kernel_rfl) (by kernel_rfl))) ?_
  intro W base args ds gs before hval0 hW _ hsz hL _
  have hval : ∀ (j : Nat) t v, Tryd.f4.params[j]? = some t → args[j]? = some v → Value.okWide Tryd.prog W .any base t v := hval0
  have hW' := hW
  have hlt : ∀ p ∈ before, p.block < W.heap.size := fun p hp => hW.lt p hp
  obtain ⟨p, q, hA0, hV, rfl, hfz, hnd⟩ := hW
  have hA : DataW.TrodAll enc Tryd.prog W 0 (fun _ => true) true Tryd.f4.params.toList args.toList ds p := hA0
  rw [Tryd.params4] at hA hval
  obtain ⟨v0, vs0, d0, ds0, p0, q0, hargs, rfl, rfl, h0, r0⟩ := trodAll_cons hA
  obtain ⟨v1, vs1, d1, ds1, p1, q1, rfl, rfl, rfl, h1, r1⟩ := trodAll_cons r0
  obtain ⟨v2, vs2, d2, ds2, p2, q2, rfl, rfl, rfl, h2, r2⟩ := trodAll_cons r1
  obtain ⟨rfl, rfl, rfl⟩ := trodAll_nil r2
  obtain rfl : args = #[v0, v1, v2] := by cases args; simp_all
  obtain ⟨rfl, rfl⟩ := trodVars_none hV
  obtain ⟨kd, rfl, rfl, rfl, _⟩ := open_int Tryd.underlying3 (hval 0 3 v0 rfl rfl) h0
  obtain ⟨sz, rfl, rfl, rfl, _⟩ := open_int Tryd.underlying2 (hval 1 2 v1 rfl rfl) h1
  obtain ⟨A, c, ls, rfl, hr⟩ := open_bss_arg (hval 2 32 v2 rfl rfl) h2 (fun n hn => by have := List.all_eq_true.1 hsz n (DataW.weights_mem_each (j := 2) (by rw [Tryd.params4]; rfl) rfl n hn); simpa using this)
  clear hA0 hval0
  refine (walk kd sz A c ls W hr).mono fun e W' ⟨he, hb⟩ => ?_
  subst he
  exact ⟨_, rfl, law_close hW' rfl rfl rfl ps hb⟩

theorem row : Rows.FrameReadsSaid :=
  OpenClaim.holds_of_wide 4 Tryd.f4 rfl rfl rfl rfl rfl rfl rfl ⟨rfl, rfl, rfl, rfl, rfl⟩ rfl rfl rfl rfl rfl (by kernel_rfl) Tryd.func4 (by kernel_rfl)
    (of_decide_eq_true (by kernel_rfl)) (by unfold Func.isWrapper; first | (rw [if_pos (by decide +kernel)]; kernel_rfl) | (rw [if_neg (by decide +kernel)]; exact ⟨rfl, rfl⟩))
    (fun os started H enc _ => lifted os started H enc)
theorem proved : Rows.FrameReadsCardSaid :=
  Claim7.holds_tied_plain_at .later [] [.data, .pinned] true (true, "87d5f9219f07a079969b4c10c39daa5a43c4b1aaca00ea7f38b869a1054ed3de") false
    row (fun _ h => by cases h) (by kernel_rfl) (fun _ h => by cases h) frameReads_row_tie rfl ⟨rfl, rfl⟩ (by kernel_rfl) rfl
    (fun f fn hf hfn => by
      obtain rfl : f = 4 := Option.some.inj ((show Tryd.prog.funcNamed "mandoline/mandolinelaw13.FrameReads" = some 4 by kernel_rfl).symm.trans hf) |>.symm
      obtain rfl : fn = Tryd.f4 := (Option.some.inj (Tryd.func4.symm.trans hfn)).symm
      exact ⟨by kernel_rfl, fun j t ht => by
        rw [Tryd.params4] at ht
        have hm : t ∈ [3, 2, 32] := by simpa using Array.mem_of_getElem? ht
        have hall : ([3, 2, 32].all fun u => !Tryd.prog.wantsStandIn u) = true := by kernel_rfl
        exact (show Tryd.prog.wantsStandIn t = false by simpa using List.all_eq_true.1 hall t hm)⟩)
    (by kernel_rfl)
#print axioms proved

end Go.Proofs.YtiigkacmahecaaaDoor.frameReads
