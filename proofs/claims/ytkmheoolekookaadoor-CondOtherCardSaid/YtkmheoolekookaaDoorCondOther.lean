/-
  Fields of other names play no part, wherever they stand: for every list of fields, every place and every field.
-/
import Derived.Test.YtkmheoolekookaaDoorCndE
import Derived.Test.YtkmheoolekookaaDoorCondE
import Derived.Test.YtkmheoolekookaaDoorGrO
import Derived.Test.YtkmheoolekookaaDoorGrL
import Derived.Test.YtkmheoolekookaaDoorTie
import Derived.Test.YtkmheoolekookaaDoorCards
import Derived.SevenTiedAt
import Derived.Deep.DeepCutAuto
import Derived.Deep.RegionHeld3
import Derived.Test.YtkmheoolekookaaDoorGrU
import Derived.Test.YtkmheoolekookaaDoorCndF
namespace Go.Proofs.YtkmheoolekookaaDoor.condOther
open Go.ChangeShapes Go.WideShapes Go.ChangeAt Go.RowKit Go.Deep
set_option linter.unusedVariables false
set_option linter.unusedSimpArgs false

theorem bytes_str8 (b : ByteArray) : (⟨b.data.toList.toArray⟩ : ByteArray) = b := by cases b; simp

set_option maxRecDepth 100000 in
set_option maxHeartbeats 32000000 in
theorem walk (v : Value) (l : List FieldL) (k : Nat) (fn fv : ByteArray) (w : World) (hk : k ≤ 255) (hr : RdL LF w w.heap.size v l) (hz : ∀ f ∈ l, f.1.length ≤ 9223372036854775807 ∧ f.2.length ≤ 9223372036854775807) (hln : l.length * 32 ≤ 140737488351232) (hfn : fn.size ≤ 9223372036854775807) (hfv : fv.size ≤ 9223372036854775807) : Calls Tryd.prog 4 #[v, .int .u8 (k : Int), .agg #[.string fn, .string fv]] w (BoolOk true w) := by
  obtain ⟨A, c, rfl, hlc, hc⟩ := hr.form
  have HR := hide hr
  have hlen := hr.len
  clear hr
  go_enter Tryd.func4, Tryd.ntmps4
  go_upto_region 1 with fail
  obtain ⟨w1, hw1⟩ : ∃ W : World, W = w.alloc (.cells #[.string fn, .string fv] 36) := ⟨_, rfl⟩
  rw [← hw1]
  have hB1 : Below w.heap.size w w1 := by rw [hw1]; exact (Below.refl _ _).alloc (Nat.le_refl _) _
  have P : Blk w1 w.heap.size 36 #[.string fn, .string fv] := by rw [hw1]; exact Blk.new _ _ _
  clear hw1
  have cP := P.cell
  have R1 := (HR.out.below hB1).mono hB1.size
  have hml : maxLen = 9223372036854775807 := by decide
  have O1 := OwnL.lit1 w1 fn fv w1.heap.size (Nat.le_refl _)
  go_wp2_with (at_builtin; refine wpList_appK LF w1 (by rfl) (.tmp 14) (.tmp 15) _ _ (by rfl) rfl rfl w1.heap.size _ _ (by rfl) O1 ((Below.refl _ _).alloc (Nat.le_refl _) _) (by simp) _ l _ (by rfl) (R1.below ((Below.refl _ _).alloc (Nat.le_refl _) _)) (by rw [hml]; simp; omega) (by show (1 + l.length) * 32 ≤ _; omega) ?_)
  intro v2 w2 O2 hA2
  obtain ⟨A2, c2, hv2, _, _⟩ := O2.rd.form
  subst hv2
  replace P := P.below hA2 P.lt
  have hB2 := hB1.trans (hA2.mono hB1.size)
  clear cP O1 R1
  have cP := P.cell
  have RM := O2.rd
  go_wp2_with fail
  refine (fits_any _ ([(fn.data.toList, fv.data.toList)] ++ l) 13 500 w2 RM (fun g hg => by
    rcases List.mem_append.1 hg with h | h
    · rw [List.mem_singleton.1 h]; exact ⟨by rw [lsize]; exact hfn, by rw [lsize]; exact hfv⟩
    · exact hz g h) (by decide)).mono ?_
  rintro e w3 ⟨r, rfl, hb3, hg⟩
  have hB3 := hB2.trans (hb3.mono hB2.size)
  replace P := P.below hb3 P.lt
  clear cP hb3 RM O2
  have cP := P.cell
  cases r
  · clear hg
    go_wp2_with fail
    refine (awake8 _).mono ?_
    rintro e w4 ⟨rfl, hb4⟩
    have hB4 := hB3.trans (hb4.mono hB3.size)
    go_wp2_with fail
    go_ret
    exact ⟨rfl, hB4⟩
  · obtain ⟨hl13, hsum⟩ := hg rfl
    clear hg
    rw [List.length_append, List.length_singleton] at hl13
    go_wp2_with fail
    refine (named_any fn w3).mono ?_
    rintro e w4 ⟨b, rfl, hnm, hb4⟩
    have hB4 := hB3.trans (hb4.mono hB3.size)
    replace P := P.below hb4 P.lt
    clear cP hb4
    have cP := P.cell
    cases b
    case true =>
      clear hnm
      go_wp2_with fail
      refine (awake8 _).mono ?_
      rintro e w5 ⟨rfl, hb5⟩
      have hB5 := hB4.trans (hb5.mono hB4.size)
      go_wp2_with fail
      go_ret
      exact ⟨rfl, hB5⟩
    have HNM := hide (hnm rfl)
    clear hnm
    obtain ⟨K, hK⟩ : ∃ m, m = k % (l.length + 1) := ⟨_, rfl⟩
    have hKl : K ≤ l.length := by have := Nat.mod_lt k (show 0 < l.length + 1 by omega); omega
    have hmod : (k : Int) % ((l.length : Int) + 1) = (K : Int) := by rw [hK, Int.natCast_emod]; rfl
    clear hK
    have hKc : K ≤ c := by omega
    have hrt := HR.out.take hKl
    obtain ⟨C2, c2', rs1, rs2, hrd⟩ := LF.cutrun HR.out hKl
    obtain ⟨T, hT⟩ : ∃ T, T = l.take K := ⟨_, rfl⟩
    obtain ⟨D, hD⟩ : ∃ T, T = l.drop K := ⟨_, rfl⟩
    have hTl : T.length = K := by rw [hT, List.length_take]; omega
    have hDl : D.length = l.length - K := by rw [hD, List.length_drop]
    rw [← hT] at hrt
    rw [← hD] at hrd
    have HT := hide hT
    have HD := hide hD
    clear hT hD
    have HDW := hide (show ∀ W : World, Below w4.heap.size w4 W → RdL LF W W.heap.size (.slice C2 (l.length - K) c2') D from fun W h => (hrd.below (hB4.trans (h.mono hB4.size))).mono (Nat.le_trans hB4.size h.size))
    have hrt4 := hrt.below (hB4.alloc hB4.size (.cells #[] 36))
    have O5 := OwnL.made LF w4 #[] 0 w4.heap.size (Nat.le_refl _) (by decide) rfl
    clear hrt hrd
    go_wp2_with (at_builtin; refine wpList_appK LF w4 (by rfl) (.tmp 31) (.tmp 34) _ _ (by rfl) rfl rfl w4.heap.size _ [] (by rfl) O5 ((Below.refl _ _).alloc (Nat.le_refl _) _) (by simp) _ T _ (by rfl) hrt4 (by rw [hml]; simp; omega) (by show (0 + T.length) * 32 ≤ _; omega) ?_)
    intro v8 w8 O8 hA8
    try rw [List.nil_append] at O8
    obtain ⟨A8, c8, hv8, _, _⟩ := O8.rd.form
    subst hv8
    have HO8 := hide O8
    clear O8 O5 hrt4
    have hm1 := hide (show T.length + [(fn.data.toList, fv.data.toList)].length ≤ maxLen by rw [hml]; simp; omega)
    have h641 := hide (show (T.length + [(fn.data.toList, fv.data.toList)].length) * 32 ≤ 140737488355328 by simp; omega)
    obtain ⟨TF, hTF⟩ : ∃ TF, TF = T ++ [(fn.data.toList, fv.data.toList)] := ⟨_, rfl⟩
    have hTFl : TF.length = K + 1 := by rw [hTF, List.length_append, hTl]; rfl
    have HTF := hide hTF
    clear hTF
    have hm2 := hide (show TF.length + D.length ≤ maxLen by rw [hml]; omega)
    have h642 := hide (show (TF.length + D.length) * 32 ≤ 140737488355328 by omega)
    replace P := P.below hA8 P.lt
    clear cP
    have cP := P.cell
    go_upto_region 5 with fail
    go_cut [8] (fun s wx => ∃ v9, s = v9 ∧ OwnL LF w4.heap.size wx v9 (TF ++ D) ∧ Below w4.heap.size w4 wx)
    case first =>
      clear hTl hDl hTFl hsum hl13 hfn hfv HNM HT HD HR hz hB1 hB2 hB3 hA2
      go_region_law (first | (refine step_appK LF w4 (by rfl) (.tmp 36) (.tmp 38) _ _ (by rfl) rfl rfl w4.heap.size _ T (by rfl) (HO8.out.alloc _).drew (hA8.alloc hA8.size _).drew (hA8.alloc hA8.size _).drew.size _ [(fn.data.toList, fv.data.toList)] _ (by rfl) (RdL.one_ (Blk.drew (Blk.new _ _ _)) (by rw [LFenc, bytes_str8, bytes_str8])) hm1.out h641.out ?_; intro v36 w36 O36 hap; rw [← HTF.out] at O36; obtain ⟨A36, c36, hv36, -, -⟩ := O36.rd.form; subst hv36) | (refine step_appK LF w4 (by rfl) (.tmp 39) (.tmp 42) _ _ (by rfl) rfl rfl w4.heap.size _ TF (by rfl) O36 hap (Below.size hap) _ D _ (by rfl) (HDW.out _ hap) hm2.out h642.out ?_; intro v39 w39 O39 hap2))
      all_goals (go_wp2_with fail; go_meet)
      all_goals exact ⟨_, rfl, O39, hap2⟩
    case rest =>
      obtain ⟨v9, rfl, O9, hA9⟩ := hcut
      obtain ⟨w9, hw9⟩ : ∃ W : World, W = wc := ⟨_, rfl⟩
      rw [← hw9] at O9 hA9 ⊢
      clear hw9 P cP HO8 hA8 rs1 rs2
      obtain ⟨M, hM⟩ : ∃ M, M = TF ++ D := ⟨_, rfl⟩
      have hMl : M.length ≤ 13 := by rw [hM, List.length_append]; omega
      have hMs : sumF M ≤ 500 := by rw [hM, HTF.out, HT.out, HD.out, sumF_other]; exact hsum
      have hls : sumF l ≤ 500 := by rw [sumF_app] at hsum; omega
      rw [← hM] at O9
      have HM := hide (hM.trans (by rw [HTF.out, HT.out, HD.out]))
      clear hM
      obtain ⟨A9, c9, hv9, _, _⟩ := O9.rd.form
      subst hv9
      have hB9 := hB4.trans (hA9.mono hB4.size)
      have HO9 := hide O9
      clear O9 hTl hDl hA9
      go_wp2_with fail
      refine (cparse8_any _ l _ ((HR.out.below hB9).mono hB9.size) (fun f hf => by have := sumF_mem hf; omega) (by omega) (by omega)).mono ?_
      rintro e w10 ⟨cv, c, n, rfl, hi, ⟨p, q, x, rfl, hx, hp, hq⟩, hb10⟩
      have hB10 := hB9.trans (hb10.mono hB9.size)
      have HO10 := hide (HO9.out.below hb10 (Nat.le_refl _))
      obtain ⟨Ap, kp, hp', _, _⟩ := hp.form
      subst hp'
      obtain ⟨Aq, kq, hq', _, _⟩ := hq.form
      subst hq'
      go_upto_region 7 with fail
      obtain ⟨w11, hw11⟩ : ∃ W : World, W = w10.alloc (.cells #[.slice Ap c.ms.length kp, .slice Aq c.ns.length kq, .bool c.am, .bool c.an, .int .i64 c.si, .int .i64 c.un, .string x, .bool c.rt.2] 29) := ⟨_, rfl⟩
      first | rw [← hw11] | skip
      have hb11 : Below w10.heap.size w10 w11 := by rw [hw11]; exact (Below.refl _ _).alloc (Nat.le_refl _) _
      have T0 : Blk w11 w10.heap.size 29 #[.slice Ap c.ms.length kp, .slice Aq c.ns.length kq, .bool c.am, .bool c.an, .int .i64 c.si, .int .i64 c.un, .string x, .bool c.rt.2] := by rw [hw11]; exact Blk.new _ _ _
      have hB11 := hB10.trans (hb11.mono hB10.size)
      have HO11 := hide (HO10.out.below hb11 (Nat.le_refl _))
      have HC : Hid (CondAt w11 (.agg #[.slice Ap c.ms.length kp, .slice Aq c.ns.length kq, .bool c.am, .bool c.an, .int .i64 c.si, .int .i64 c.un, .string x, .bool c.rt.2]) c) := CondAt.below ⟨_, _, _, rfl, hx, hp, hq⟩ hb11
      clear hw11 hp hq hx hb11
      go_wp2_with fail
      refine (cparse8_any _ M _ (HO11.out.rd) (fun f hf => by have := sumF_mem hf; omega) (by omega) (by omega)).mono ?_
      rintro e w12 ⟨cv2, c2, n2, rfl, hi2, ⟨p2, q2, x2, rfl, hx2, hp2, hq2⟩, hb12⟩
      have hB12 := hB11.trans (hb12.mono hB11.size)
      have hi3 := CondIs.other (f := (fn.data.toList, fv.data.toList)) (k := K) (by rw [lsize]; exact HNM.out) (HM.out ▸ hi2)
      obtain ⟨rfl, rfl⟩ := hi.uniq hi3
      replace T0 := T0.below hb12 T0.lt
      have HC' := hide (HC.out.below hb12)
      clear HC
      have HC := HC'
      clear HC'
      obtain ⟨Ap2, kp2, hp2', _, _⟩ := hp2.form
      subst hp2'
      obtain ⟨Aq2, kq2, hq2', _, _⟩ := hq2.form
      subst hq2'
      go_upto_region 8 with fail
      obtain ⟨w13, hw13⟩ : ∃ W : World, W = w12.alloc (.cells #[.slice Ap2 c.ms.length kp2, .slice Aq2 c.ns.length kq2, .bool c.am, .bool c.an, .int .i64 c.si, .int .i64 c.un, .string x2, .bool c.rt.2] 29) := ⟨_, rfl⟩
      first | rw [← hw13] | skip
      have hb13 : Below w12.heap.size w12 w13 := by rw [hw13]; exact (Below.refl _ _).alloc (Nat.le_refl _) _
      have T2 : Blk w13 w12.heap.size 29 #[.slice Ap2 c.ms.length kp2, .slice Aq2 c.ns.length kq2, .bool c.am, .bool c.an, .int .i64 c.si, .int .i64 c.un, .string x2, .bool c.rt.2] := by rw [hw13]; exact Blk.new _ _ _
      have hB13 := hB12.trans (hb13.mono hB12.size)
      have HC2 : Hid (CondAt w13 (.agg #[.slice Ap2 c.ms.length kp2, .slice Aq2 c.ns.length kq2, .bool c.am, .bool c.an, .int .i64 c.si, .int .i64 c.un, .string x2, .bool c.rt.2]) c) := CondAt.below ⟨_, _, _, rfl, hx2, hp2, hq2⟩ hb13
      have HC' := hide (HC.out.below hb13)
      clear HC
      have HC := HC'
      clear HC'
      have T' := T0.below hb13 T0.lt
      replace T0 := T'
      clear T'
      clear hw13 hp2 hq2 hx2 hb13
      have cT := T0.cell
      have cT2 := T2.cell
      go_wp2_with fail
      refine (same8_at _ _ c w13 HC.out HC2.out).mono ?_
      rintro e w14 ⟨rfl, hb14⟩
      have hB14 := hB13.trans (hb14.mono hB13.size)
      go_wp2_with fail
      refine (awake8 _).mono ?_
      rintro e w15 ⟨rfl, hb15⟩
      have hB15 := hB14.trans (hb15.mono hB14.size)
      go_wp2_with fail
      go_ret
      exact ⟨rfl, hB15⟩

theorem ps : ∀ t ∈ Tryd.f4.params.toList, Tryd.prog.readableRec t = true ∧ t < Tryd.prog.types.size := by
  rw [Tryd.params4]
  intro t ht
  simp at ht
  rcases ht with rfl | rfl | rfl
  all_goals exact ⟨by kernel_rfl, of_decide_eq_true (by kernel_rfl)⟩

set_option maxRecDepth 100000 in
theorem lifted (os : Os) (started : os.Started) (H : Type) (enc : TypeId × Value → H) :
    ReturnsInHanded {} Tryd.checked os 4 .any (fun w args => (Rows.condOtherSpec.pre enc Tryd.prog Tryd.f4 [] false w args ∧ laidMetH Tryd.prog laidL w) ∧ sizedMet enc Tryd.prog Tryd.f4 (OpenSpec.ofChange Rows.condOtherSpec) false w args) (Rows.condOtherSpec.post enc Tryd.prog Tryd.f4 false true false false) := by
  refine returnsInHanded_of_change_and (C := Tryd.checked) (X := fun w _ => laidMetH Tryd.prog laidL w) (fun _ _ _ hh h => h.of_heap hh) law_own started (by kernel_rfl) Tryd.func4
    (ChangeSpec.witness_shaped (enc := enc) (C := Tryd.checked) (os := os) (X := fun w _ => laidMetH Tryd.prog laidL w) false (World.laidAll Tryd.prog os laidL) #[.slice none 0 0, .int .u8 0, .agg #[.string ByteArray.empty, .string ByteArray.empty]] 8 (World.laidAll_os _ _ _) (World.shaped_of_ZipB (by kernel_rfl) (by kernel_rfl)) (by kernel_rfl) (by kernel_rfl) (by kernel_rfl) (by rw [MakeChecks.laidMetH_plain _ _ _ (by kernel_rfl)]; exact laidMet_laidAll _ (by kernel_rfl) (by kernel_rfl))) ?_
  intro W base args ds gs before hval0 hW _ hsz hL _
  have hval : ∀ (j : Nat) t v, Tryd.f4.params[j]? = some t → args[j]? = some v → Value.okWide Tryd.prog W .any base t v := hval0
  have hW' := hW
  have hlt : ∀ p ∈ before, p.block < W.heap.size := fun p hp => hW.lt p hp
  obtain ⟨p, q, hA0, hV, rfl, hfz, hnd⟩ := hW
  have hA : DataW.TrodAll enc Tryd.prog W 0 (fun _ => true) true Tryd.f4.params.toList args.toList ds p := hA0
  rw [Tryd.params4] at hA hval
  obtain ⟨v0, vs0, d0, ds0, p0, q0, hargs, rfl, rfl, h0, r0⟩ := trodAll_cons hA
  obtain ⟨v1, vs1, d1, ds1, p1, q1, rfl, rfl, rfl, h1, r1⟩ := trodAll_cons r0
  obtain ⟨v2, vs2, d2, ds2, p2, q2, rfl, rfl, rfl, h2, r2⟩ := trodAll_cons r1
  obtain ⟨rfl, rfl, rfl⟩ := trodAll_nil r2
  obtain rfl : args = #[v0, v1, v2] := by cases args; simp_all
  obtain ⟨rfl, rfl⟩ := trodVars_none hV
  obtain ⟨l, hr, hz, hn⟩ := open_fields_arg (hval 0 22 v0 rfl rfl) h0 (fun n hn => by have := List.all_eq_true.1 hsz n (DataW.weights_mem_each (j := 0) (by rw [Tryd.params4]; rfl) rfl n hn); simpa using this)
  obtain ⟨z1, rfl, rfl, rfl, wf1⟩ := open_int Tryd.underlying5 (hval 1 5 v1 rfl rfl) h1
  have kk1 : 0 ≤ z1 ∧ z1 ≤ 255 := by
    have k0 : IntKind.u8.min = 0 := by decide
    have k1 : IntKind.u8.max = 255 := by decide
    have := wf1
    simpa [Lit.wf, k0, k1] using this
  obtain ⟨k, rfl⟩ : ∃ n : Nat, z1 = (n : Int) := ⟨z1.toNat, by omega⟩
  have hk : k ≤ 255 := by omega
  obtain ⟨fn, fv, rfl, hfn, hfv⟩ := open_field_arg (hval 2 36 v2 rfl rfl) h2 (fun n hn => by have := List.all_eq_true.1 hsz n (DataW.weights_mem_each (j := 2) (by rw [Tryd.params4]; rfl) rfl n hn); simpa using this)
  clear hA0 hval0
  refine (walk _ l k fn fv W hk hr (fun f hf => by have := hz f hf; omega) hn (by omega) (by omega)).mono fun e W' ⟨he, hb⟩ => ?_
  subst he
  exact ⟨_, rfl, law_close hW' rfl rfl rfl ps hb⟩

theorem row : Rows.CondOtherSaid :=
  OpenClaim.holds_of_wide 4 Tryd.f4 rfl rfl rfl rfl rfl rfl rfl ⟨rfl, rfl, rfl, rfl, rfl⟩ rfl rfl rfl rfl rfl (by kernel_rfl) Tryd.func4 (by kernel_rfl)
    (of_decide_eq_true (by kernel_rfl)) (by unfold Func.isWrapper; first | (rw [if_pos (by decide +kernel)]; kernel_rfl) | (rw [if_neg (by decide +kernel)]; exact ⟨rfl, rfl⟩))
    (fun os started H enc _ => lifted os started H enc)
theorem proved : Rows.CondOtherCardSaid :=
  Claim7.holds_tied_plain_at .later [] [.data, .pinned] true (true, "6ae73031020a7ecdf35eb6afe271d5ad3d756c5236a3ab680dcad54f85cf945c") false
    row (fun _ h => by cases h) (by kernel_rfl) (fun _ h => by cases h) condOther_row_tie rfl ⟨rfl, rfl⟩ (by kernel_rfl) rfl
    (fun f fn hf hfn => by
      obtain rfl : f = 4 := Option.some.inj ((show Tryd.prog.funcNamed "mandoline/mandolinelaw08.CondOther" = some 4 by kernel_rfl).symm.trans hf) |>.symm
      obtain rfl : fn = Tryd.f4 := (Option.some.inj (Tryd.func4.symm.trans hfn)).symm
      exact ⟨by kernel_rfl, fun j t ht => by
        rw [Tryd.params4] at ht
        have hm : t ∈ [22, 5, 36] := by simpa using Array.mem_of_getElem? ht
        have hall : ([22, 5, 36].all fun u => !Tryd.prog.wantsStandIn u) = true := by kernel_rfl
        exact (show Tryd.prog.wantsStandIn t = false by simpa using List.all_eq_true.1 hall t hm)⟩)
    (by kernel_rfl)
#print axioms proved

end Go.Proofs.YtkmheoolekookaaDoor.condOther
