/-
  What is told shares nothing with what was handed in, nor with what was told ahead.
-/
import Derived.Test.YtmelcndflllgmaaGreatDoorFrwG
import Derived.Test.YtmelcndflllgmaaGreatDoorGrFu
import Derived.Test.YtmelcndflllgmaaGreatDoorGrM
import Derived.Test.YtmelcndflllgmaaGreatDoorGrO
import Derived.Test.YtmelcndflllgmaaGreatDoorGrL
import Derived.Test.YtmelcndflllgmaaGreatDoorTie
import Derived.Test.YtmelcndflllgmaaGreatDoorCards
import Derived.SevenTiedAt
import Derived.Deep.DeepCutAuto
import Derived.Deep.RegionHeld3
import Derived.Test.YtmelcndflllgmaaGreatDoorGrU
import Derived.Test.YtmelcndflllgmaaGreatDoorFldC
import Derived.Test.YtmelcndflllgmaaGreatDoorFrwH
namespace Go.Proofs.YtmelcndflllgmaaGreatDoor.metaKept
open Go.ChangeShapes Go.WideShapes Go.ChangeAt Go.RowKit Go.Deep
set_option linter.unusedVariables false
set_option linter.unusedSimpArgs false

set_option maxRecDepth 100000 in
set_option maxHeartbeats 16000000 in
theorem walk (mt : ByteArray) (mk : Bool) (md ln hv fr wh er : Int) (kv : Value) (tn : ByteArray) (kp : Bool) (age : Int) (ks : List ByteArray) (w : World) (hT : Tab w) (hM : MaxI w.heap.size w) (hmt : mt.size ≤ 9223372036854775807) (htn : tn.size ≤ 9223372036854775807) (hr : RdStrs w w.heap.size kv ks) : Calls Tryz.prog 5 #[.agg #[.string mt, .bool mk, .int .i64 md, .int .i64 ln, .int .i64 hv, .int .i64 fr, .int .i64 wh, .int .i64 er, kv, .string tn, .bool kp], .int .i64 age] w (BoolOk true w) := by
  have HT := hide hT
  have HM := hide hM
  clear hT hM
  obtain ⟨A, c, rfl, hkc0, hc0⟩ := hr.form
  have HR0 := hide hr
  clear hr
  go_enter Tryz.func5, Tryz.ntmps5
  go_wp2_with fail
  obtain ⟨w1, hw1⟩ : ∃ w1 : World, w1 = (w).alloc (.cells #[.string mt, .bool mk, .int .i64 md, .int .i64 ln, .int .i64 hv, .int .i64 fr, .int .i64 wh, .int .i64 er, .slice A ks.length c, .string tn, .bool kp] 29) := ⟨_, rfl⟩
  rw [← hw1]
  have hB1 : Below w.heap.size w w1 := by rw [hw1]; exact ((Below.refl _ _).alloc (Nat.le_refl _) _)
  have T : Blk w1 (w.heap.size) 29 #[.string mt, .bool mk, .int .i64 md, .int .i64 ln, .int .i64 hv, .int .i64 fr, .int .i64 wh, .int .i64 er, .slice A ks.length c, .string tn, .bool kp] := by rw [hw1]; exact (Blk.new _ _ _)
  have HR1 := hide ((HR0.out.below hB1).mono hB1.size)
  clear hw1
  have cT := T.cell
  refine (wakes_any _ (HT.out.below hB1)).mono ?_
  rintro e w2 ⟨rfl, hb2⟩
  have hB2 := hB1.trans (hb2.mono hB1.size)
  replace T := T.below hb2 T.lt
  replace HR1 := hide ((HR1.out.below hb2).mono hb2.size)
  clear cT hb2
  have cT := T.cell
  go_wp2_with fail
  refine (small_any mt mk md ln hv fr wh er _ tn kp ks _ hmt htn HR1.out).mono ?_
  rintro e w3 ⟨rfl, hb3⟩
  have hB3 := hB2.trans (hb3.mono hB2.size)
  replace T := T.below hb3 T.lt
  replace HR1 := hide ((HR1.out.below hb3).mono hb3.size)
  clear cT hb3
  have cT := T.cell
  cases q1 : smallB mt ks tn
  · go_wp2_with fail
    go_ret
    exact ⟨rfl, hB3⟩
  · go_upto_region 6 with fail
    obtain ⟨w4, hw4⟩ : ∃ W : World, W = w3.alloc (.cells #[.string mt, .bool mk, .int .i64 md, .int .i64 ln, .int .i64 hv, .int .i64 fr, .int .i64 wh, .int .i64 er, .slice A ks.length c, .string tn, .bool kp] 29) := ⟨_, rfl⟩
    first | rw [← hw4] | skip
    obtain ⟨gu, hgu⟩ : ∃ n, n = w3.heap.size := ⟨_, rfl⟩
    have hTl := T.lt
    have U : Blk w4 gu 29 #[.string mt, .bool mk, .int .i64 md, .int .i64 ln, .int .i64 hv, .int .i64 fr, .int .i64 wh, .int .i64 er, .slice A ks.length c, .string tn, .bool kp] := by rw [hw4, hgu]; exact Blk.new _ _ _
    have hb4 : Below w3.heap.size w3 w4 := by rw [hw4]; exact (Below.refl _ _).alloc (Nat.le_refl _) _
    have hB4 := hB3.trans (hb4.mono hB3.size)
    replace T := T.below hb4 T.lt
    have hgw : w.heap.size < gu := by rw [hgu]; exact hTl
    first | rw [← hgu] | skip
    clear hw4 hgu cT hb4
    have hgu4 := U.lt
    have hTl4 := T.lt
    have cT := T.cell
    have cU := U.cell
    have fU := U.frozen
    obtain ⟨kl, hkl⟩ : ∃ x, x = ks.map (·.data.toList) := ⟨_, rfl⟩
    have hkll : kl.length = ks.length := by rw [hkl, List.length_map]
    have hks : kl.length ≤ 40 := by rw [hkll]; exact (small_of q1).2.1
    have HKLL := hide hkll
    clear hkll
    have HKL := hide hkl
    have RK := hide (show RdL LS (w4.alloc (.cells #[] LS.e)) w4.heap.size (.slice A ks.length c) kl by rw [hkl]; exact ((HR0.out.rdl.below hB4).mono hB4.size).below ((Below.refl _ _).alloc (Nat.le_refl _) _))
    clear hkl q1
    go_upto_region 7 with (first | (at_builtin; refine wpList_appL LS w4 (by rfl) (.tmp 23) (.tmp 25) _ _ (by rfl) rfl rfl w4.heap.size _ ([] : List Bs) (by rfl) (OwnL.made LS w4 #[] 0 w4.heap.size (Nat.le_refl _) (by decide) rfl) ((Below.refl _ _).alloc (Nat.le_refl _) _) (by simp) _ kl _ (by rfl) RK.out (by decide) (by show 0 + _ ≤ _; omega) ?_; intro v7 w7 O7 hB7 _ _; rw [List.nil_append] at O7; obtain ⟨A3, c3, hv7, _, _⟩ := O7.rd.form; subst hv7; have U7 := U.below hB7 U.lt; clear cT cU fU; have cU := U7.cell; have fU := U7.frozen) | fail)
    obtain ⟨w5, hw5⟩ : ∃ W, W = w7.setCell ⟨gu, 8, none⟩ (.slice A3 kl.length c3) := ⟨_, rfl⟩
    rw [← hw5]
    have OK5 : OwnL LS w4.heap.size w5 (.slice A3 kl.length c3) kl := by rw [hw5]; exact OwnL.far O7 (O7.not_blk U7 (by decide)) _
    have U5 : Blk w5 gu 29 #[.string mt, .bool mk, .int .i64 md, .int .i64 ln, .int .i64 hv, .int .i64 fr, .int .i64 wh, .int .i64 er, .slice A3 kl.length c3, .string tn, .bool kp] := by rw [hw5]; simpa using U7.set_ 8 (.slice A3 kl.length c3)
    have T5 : Blk w5 w.heap.size 29 #[.string mt, .bool mk, .int .i64 md, .int .i64 ln, .int .i64 hv, .int .i64 fr, .int .i64 wh, .int .i64 er, .slice A ks.length c, .string tn, .bool kp] := by rw [hw5]; exact (T.below hB7 T.lt).far (show w.heap.size ≠ gu by omega) _
    have hB5 : Below w.heap.size w w5 := by rw [hw5]; exact below_set (hB4.trans (hB7.mono hB4.size)) (by omega) _
    have hsz45 : w4.heap.size ≤ w5.heap.size := by rw [hw5]; have := hB7.size; simpa [World.setCell] using this
    clear hw5 cU fU T U U7 O7 hB7
    have T := T5
    have U := U5
    clear T5 U5
    have cT := T.cell
    have cU := U.cell
    have hK3 := hide (OK5.lt)
    have HRU := hide (show RdStrs w5 w5.heap.size (.slice A3 kl.length c3) ks from rd_back (by rw [← HKL.out]; exact OK5.rd) HR0.out.2.1)
    have OK := hide OK5
    clear OK5
    by_cases hy : metaOk mt mk md ln hv fr wh er ks tn = true ∧ tickOk age = true
    · have HM1 := hide hy.1
      have HA := hide hy.2
      clear hy
      go_wp2_with fail
      refine (fields_yes mt mk md ln hv fr wh er _ tn kp age ks w5 hmt htn HRU.out (HT.out.below hB5) HM1.out HA.out).mono ?_
      rintro e w6 ⟨v1, dt, rfl, hdt, O1, hb6⟩
      have hB6 := hB5.trans (hb6.mono hB5.size)
      replace T := T.below hb6 T.lt
      replace U := U.below hb6 U.lt
      have OK6 := hide (OK.out.below hb6 (Nat.le_refl _))
      have hsz6 := hb6.size
      clear cT cU hb6 OK HRU
      obtain ⟨F, hF⟩ : ∃ x, x = fieldsF mt mk md ln hv fr wh er ks tn kp age dt := ⟨_, rfl⟩
      rw [← hF] at O1
      have ha := HA.out
      unfold tickOk at ha
      rw [decide_eq_true_eq] at ha
      have hFs : F.length ≤ 8 ∧ sumF F ≤ 9000 := by rw [hF]; exact fieldsF_small HM1.out ha.1 ha.2 hdt
      have HBK := hide (show FromIs F (some ((⟨(mt.data.toList, mk), md, ln, hv, fr, wh, er, ks.map (·.data.toList), tn.data.toList, kp⟩ : MetaM), age)) from meta_back HM1.out ha.1 ha.2 hdt (by rw [← hF]; exact SaysF.refl F))
      have HDT := hide hdt
      clear hF ha hdt
      obtain ⟨A1, c1, hv1, _, _⟩ := O1.rd.form
      subst hv1
      have hG1 := hide O1.lt
      have O6 := hide O1
      clear O1
      have hz1 : ∀ f ∈ F, f.1.length ≤ 1000000 := fun f hf => by have := sumF_mem hf; omega
      have hz2 : ∀ f ∈ F, f.2.length ≤ 1000000 := fun f hf => by have := sumF_mem hf; omega
      go_wp2_with fail
      refine (cfrom_any _ F w6 ((HM.out.below hB6).mono hB6.size) O6.out.rd hz1 hz2 (by omega) (by omega)).mono ?_
      intro e w7 hgot
      obtain ⟨hb7, MX, a1, er1, x1, rfl, hx1, hs1, ht1⟩ := told_own hz2 hgot
      clear hgot
      have hB7 := hB6.trans (hb7.mono hB6.size)
      obtain ⟨hm1, ha1, he1⟩ := ht1.uniq (.inr ⟨rfl, HBK.out⟩)
      have HMX := hide hm1
      subst a1 er1
      clear ht1 hm1
      replace T := T.below hb7 T.lt
      replace U := U.below hb7 U.lt
      have OK7 := hide (OK6.out.below hb7 (Nat.le_refl _))
      have O7 := hide (O6.out.below hb7 (Nat.le_refl _))
      have hsz7 := hb7.size
      obtain ⟨kvx, hx1', hkx⟩ := hx1
      subst hx1'
      obtain ⟨Ax, cx, hkf, _, _⟩ := hkx.rd.form
      subst hkf
      go_upto_region 11 with fail
      obtain ⟨w8, hw8⟩ : ∃ W : World, W = w7.alloc (.cells #[.string ⟨MX.t.1.toArray⟩, .bool MX.t.2, .int .i64 MX.md, .int .i64 MX.ln, .int .i64 MX.hv, .int .i64 MX.fr, .int .i64 MX.wh, .int .i64 MX.er, .slice Ax MX.ks.length cx, .string ⟨MX.tn.toArray⟩, .bool MX.kp] 29) := ⟨_, rfl⟩
      first | rw [← hw8] | skip
      obtain ⟨gx, hgx⟩ : ∃ n, n = w7.heap.size := ⟨_, rfl⟩
      have X : Blk w8 gx 29 #[.string ⟨MX.t.1.toArray⟩, .bool MX.t.2, .int .i64 MX.md, .int .i64 MX.ln, .int .i64 MX.hv, .int .i64 MX.fr, .int .i64 MX.wh, .int .i64 MX.er, .slice Ax MX.ks.length cx, .string ⟨MX.tn.toArray⟩, .bool MX.kp] := by rw [hw8, hgx]; exact Blk.new _ _ _
      have hb8 : Below w7.heap.size w7 w8 := by rw [hw8]; exact (Below.refl _ _).alloc (Nat.le_refl _) _
      have hB8 := hB7.trans (hb8.mono hB7.size)
      replace T := T.below hb8 T.lt
      replace U := U.below hb8 U.lt
      have OK8 := hide (OK7.out.below hb8 (Nat.le_refl _))
      have O8 := hide (O7.out.below hb8 (Nat.le_refl _))
      have OX8 := hide (hkx.below hb8 (Nat.le_refl _))
      have hgx6 : w6.heap.size ≤ gx := by rw [hgx]; exact hsz7
      first | rw [← hgx] | skip
      clear hw8 hgx hkx hb7 hb8 OK6 OK7 O6 O7 hz1 hz2
      have cT := T.cell
      have cU := U.cell
      have cX := X.cell
      go_wp2_with fail
      go_loopw [11, 47] (fun _ c47 wr => ∃ (k : Nat) (xs : List Value), k ≤ kl.length ∧ c47 = .int .i64 (k : Int) ∧ Hid (wr.ownsRow w4.heap.size LS.e 1 (.slice A3 kl.length c3) kl.length xs) ∧ Blk wr gu 29 #[.string mt, .bool mk, .int .i64 md, .int .i64 ln, .int .i64 hv, .int .i64 fr, .int .i64 wh, .int .i64 er, .slice A3 kl.length c3, .string tn, .bool kp] ∧ Blk wr w.heap.size 29 #[.string mt, .bool mk, .int .i64 md, .int .i64 ln, .int .i64 hv, .int .i64 fr, .int .i64 wh, .int .i64 er, .slice A ks.length c, .string tn, .bool kp] ∧ Blk wr gx 29 #[.string ⟨MX.t.1.toArray⟩, .bool MX.t.2, .int .i64 MX.md, .int .i64 MX.ln, .int .i64 MX.hv, .int .i64 MX.fr, .int .i64 MX.wh, .int .i64 MX.er, .slice Ax MX.ks.length cx, .string ⟨MX.tn.toArray⟩, .bool MX.kp] ∧ Hid (OwnL LS w6.heap.size wr (.slice Ax MX.ks.length cx) MX.ks) ∧ Hid (OwnL LF w5.heap.size wr (.slice A1 F.length c1) F) ∧ Below w.heap.size w wr) (fun _ c47 _ => kl.length - (intOf c47).toNat)
      case atStart => exact ⟨0, _, Nat.zero_le _, rfl, (show World.ownsRow _ _ _ _ _ _ _ from OK8.out), U, T, X, OX8, O8, hB8⟩
      case round =>
        clear T U X cT cU cX OK8 O8 OX8 hB8
        obtain ⟨k, xs, hk, rfl, HXS, U, T, X, HOX, HO1, hb⟩ := hrel
        have cT := T.cell
        have cU := U.cell
        have cX := X.cell
        by_cases hlt : k < kl.length
        · obtain ⟨g3, cap3, hv3⟩ := row_form HXS.out (by omega)
          obtain ⟨hA3, hc3⟩ := slice_inj hv3
          subst hA3 hc3
          have h3 := hK3.out g3 rfl
          obtain ⟨u, hu⟩ : ∃ u, xs[k]? = some u := ⟨xs[k]'(by have := HXS.out.1; omega), List.getElem?_eq_getElem _⟩
          have d0 : wr.cell? ⟨g3, k, none⟩ = some u := by rw [World.ownsRow.cellAt HXS.out k (by omega)]; exact hu
          have f0 : wr.frozen? ⟨g3, k, none⟩ = false := World.ownsRow.frozenAt HXS.out k
          clear hu hv3
          go_wp2_with fail
          go_roundw
          case rel => exact ⟨k + 1, _, by omega, by go_num, (World.ownsRow.stored HXS.out k _).1, U.far (show gu ≠ g3 by omega) _, T.far (show w.heap.size ≠ g3 by omega) _, X.far (show gx ≠ g3 by omega) _, own_setz HOX.out (by omega) _, own_setz HO1.out (by omega) _, below_set hb (by omega) _⟩
          case measure => simp [intOf] <;> omega
        · clear HXS U cU
          go_wp2_with fail
          go_loopw [12, 57] (fun _ c57 wr => ∃ (k : Nat) (xs : List Value), k ≤ F.length ∧ c57 = .int .i64 (k : Int) ∧ Hid (wr.ownsRow w5.heap.size LF.e 2 (.slice A1 F.length c1) F.length xs) ∧ Blk wr w.heap.size 29 #[.string mt, .bool mk, .int .i64 md, .int .i64 ln, .int .i64 hv, .int .i64 fr, .int .i64 wh, .int .i64 er, .slice A ks.length c, .string tn, .bool kp] ∧ Blk wr gx 29 #[.string ⟨MX.t.1.toArray⟩, .bool MX.t.2, .int .i64 MX.md, .int .i64 MX.ln, .int .i64 MX.hv, .int .i64 MX.fr, .int .i64 MX.wh, .int .i64 MX.er, .slice Ax MX.ks.length cx, .string ⟨MX.tn.toArray⟩, .bool MX.kp] ∧ Hid (OwnL LS w6.heap.size wr (.slice Ax MX.ks.length cx) MX.ks) ∧ Below w.heap.size w wr) (fun _ c57 _ => F.length - (intOf c57).toNat)
          case atStart => exact ⟨0, _, Nat.zero_le _, rfl, (show World.ownsRow _ _ _ _ _ _ _ from HO1.out), T, X, HOX, hb⟩
          case round =>
            clear T X cT cX HO1 HOX hb
            obtain ⟨k, xs, hk, rfl, HXS, T, X, HOX, hb⟩ := hrel
            have cT := T.cell
            have cX := X.cell
            by_cases hlt2 : k < F.length
            · obtain ⟨g1, cap1, hv1⟩ := row_form HXS.out (by omega)
              obtain ⟨hA1, hc1⟩ := slice_inj hv1
              subst hA1 hc1
              have h1 := hG1.out g1 rfl
              obtain ⟨u, hu⟩ : ∃ u, xs[k * 2 + 1]? = some u := ⟨xs[k * 2 + 1]'(by have := HXS.out.1; omega), List.getElem?_eq_getElem _⟩
              have d0 : wr.cell? ⟨g1, k * 2 + 1, none⟩ = some u := by rw [World.ownsRow.cellAt HXS.out (k * 2 + 1) (by omega)]; exact hu
              have f0 : wr.frozen? ⟨g1, k * 2 + 1, none⟩ = false := World.ownsRow.frozenAt HXS.out _
              clear hu hv1
              go_wp2_with fail
              go_roundw
              case rel => exact ⟨k + 1, _, by omega, by go_num, (World.ownsRow.stored HXS.out (k * 2 + 1) _).1, T.far (show w.heap.size ≠ g1 by omega) _, X.far (show gx ≠ g1 by omega) _, own_setz HOX.out (by omega) _, below_set hb (by omega) _⟩
              case measure => simp [intOf] <;> omega
            · clear HXS
              obtain ⟨w9, hw9⟩ : ∃ W : World, W = wr := ⟨_, rfl⟩
              rw [← hw9] at T X HOX hb ⊢
              have hB9 := hb
              clear hw9 hb cT cX
              have cT := T.cell
              have cX := X.cell
              go_wp2_with fail
              refine (fields_yes mt mk md ln hv fr wh er _ tn kp age ks w9 hmt htn ((HR0.out.below hB9).mono hB9.size) (HT.out.below hB9) HM1.out HA.out).mono ?_
              rintro e w10 ⟨v2, dt2, rfl, hdt2, O2, hb10⟩
              have hB10 := hB9.trans (hb10.mono hB9.size)
              replace T := T.below hb10 T.lt
              replace X := X.below hb10 X.lt
              have HOX10 := hide (HOX.out.below hb10 (Nat.le_refl _))
              clear HOX cT cX hb10
              have cT := T.cell
              have cX := X.cell
              obtain ⟨lf, hlf⟩ : ∃ x, x = fieldsF mt mk md ln hv fr wh er ks tn kp age dt2 := ⟨_, rfl⟩
              rw [← hlf] at O2
              have HLF := hide hlf
              clear hlf
              obtain ⟨A6, c6, hv6, _, _⟩ := O2.rd.form
              subst hv6
              go_wp2_with fail
              refine (rfields_yes mt mk md ln hv fr wh er _ tn kp age ks w10 hmt htn ((HR0.out.below hB10).mono hB10.size) HM1.out HA.out).mono ?_
              rintro e w11 ⟨v3, dt3, rfl, hdt3, O3, hb11⟩
              have hB11 := hB10.trans (hb11.mono hB10.size)
              replace T := T.below hb11 T.lt
              replace X := X.below hb11 X.lt
              have HOX11 := hide (HOX10.out.below hb11 (Nat.le_refl _))
              have O2' := hide (O2.below hb11 (Nat.le_refl _))
              clear O2 HOX10 cT cX hb11
              have cT := T.cell
              have cX := X.cell
              have he : fieldsF mt mk md ln hv fr wh er ks tn kp age dt3 = lf := by rw [HLF.out]; exact fields_uniq hdt3 hdt2
              rw [he] at O3
              clear he HLF hdt2 hdt3
              obtain ⟨A8, c8, hv8, _, _⟩ := O3.rd.form
              subst hv8
              have O3' := hide O3
              clear O3
              have HX1 := hide (show MetaAt w11 (.agg #[.string ⟨MX.t.1.toArray⟩, .bool MX.t.2, .int .i64 MX.md, .int .i64 MX.ln, .int .i64 MX.hv, .int .i64 MX.fr, .int .i64 MX.wh, .int .i64 MX.er, .slice Ax MX.ks.length cx, .string ⟨MX.tn.toArray⟩, .bool MX.kp]) MX from ⟨_, rfl, HOX11.out.rd⟩)
              have HX2 := hide (show MetaAt w11 (.agg #[.string mt, .bool mk, .int .i64 md, .int .i64 ln, .int .i64 hv, .int .i64 fr, .int .i64 wh, .int .i64 er, .slice A ks.length c, .string tn, .bool kp]) MX by rw [HMX.out]; exact meta_at ((HR0.out.below hB11).mono hB11.size))
              have HS1 := hide hs1
              clear hs1
              go_wp2_with fail
              refine (rmsame_at _ _ MX w11 HS1.out HX1.out HX2.out).mono ?_
              rintro e w12 ⟨rfl, hb12⟩
              have hB12 := hB11.trans (hb12.mono hB11.size)
              have R1 := hide ((O2'.out.rd.below hb12).mono hb12.size)
              have R2 := hide ((O3'.out.rd.below hb12).mono hb12.size)
              clear hb12
              have CS := fsame_any _ _ lf lf _ _ _ (Nat.le_refl _) (Nat.le_refl _) R1.out R2.out
              rw [show decide (lf = lf) = true from decide_eq_true rfl] at CS
              have HCS := hide CS
              clear CS R1 R2
              go_wp2_with fail
              refine HCS.out.mono ?_
              rintro e w13 ⟨rfl, hb13⟩
              have hB13 := hB12.trans (hb13.mono hB12.size)
              go_wp2_with fail
              go_ret
              exact ⟨rfl, hB13⟩
    · have HNO := hide (show metaOk mt mk md ln hv fr wh er ks tn = false ∨ tickOk age = false by
        cases h1 : metaOk mt mk md ln hv fr wh er ks tn
        · exact .inl rfl
        · cases h2 : tickOk age
          · exact .inr rfl
          · exact absurd ⟨h1, h2⟩ hy)
      clear hy
      go_wp2_with fail
      refine (fields_no mt mk md ln hv fr wh er _ tn kp age ks w5 hmt htn HRU.out HNO.out).mono ?_
      rintro e w6 ⟨rfl, hb6⟩
      have hB6 := hB5.trans (hb6.mono hB5.size)
      go_wp2_with fail
      go_ret
      exact ⟨rfl, hB6⟩

theorem ps : ∀ t ∈ Tryz.f5.params.toList, Tryz.prog.readableRec t = true ∧ t < Tryz.prog.types.size := by
  rw [Tryz.params5]
  intro t ht
  simp at ht
  rcases ht with rfl | rfl
  all_goals exact ⟨by kernel_rfl, of_decide_eq_true (by kernel_rfl)⟩

set_option maxRecDepth 100000 in
theorem lifted (os : Os) (started : os.Started) (H : Type) (enc : TypeId × Value → H) :
    ReturnsInHanded {} Tryz.checked os 5 .any (fun w args => (Rows.metaKeptSpec.pre enc Tryz.prog Tryz.f5 [] false w args ∧ laidMetH Tryz.prog laidL w) ∧ sizedMet enc Tryz.prog Tryz.f5 (OpenSpec.ofChange Rows.metaKeptSpec) false w args) (Rows.metaKeptSpec.post enc Tryz.prog Tryz.f5 false true false false) := by
  refine returns_shaped (C := Tryz.checked) (X := fun w _ => laidMetH Tryz.prog laidL w) (fun _ _ _ hh h => h.of_heap hh) law_own started (by kernel_rfl) Tryz.func5
    (ChangeSpec.witness_shaped (enc := enc) (C := Tryz.checked) (os := os) (X := fun w _ => laidMetH Tryz.prog laidL w) false (World.laidAll Tryz.prog os laidL) #[.agg #[.string ByteArray.empty, .bool false, .int .i64 0, .int .i64 0, .int .i64 0, .int .i64 0, .int .i64 0, .int .i64 0, .slice none 0 0, .string ByteArray.empty, .bool false], .int .i64 0] 8 (World.laidAll_os _ _ _) (World.shaped_of_ZipB (by kernel_rfl) (by kernel_rfl)) (by kernel_rfl) (by kernel_rfl) (by kernel_rfl) (by rw [MakeChecks.laidMetH_plain _ _ _ (by kernel_rfl)]; exact laidMet_laidAll _ (by kernel_rfl) (by kernel_rfl))) ?_
  intro W base args ds gs before hval0 hW hsz hL hshp
  have hval : ∀ (j : Nat) t v, Tryz.f5.params[j]? = some t → args[j]? = some v → Value.okWide Tryz.prog W .any base t v := hval0
  have hW' := hW
  have hlt : ∀ p ∈ before, p.block < W.heap.size := fun p hp => hW.lt p hp
  obtain ⟨p, q, hA0, hV, rfl, hfz, hnd⟩ := hW
  have hA : DataW.TrodAll enc Tryz.prog W 0 (fun _ => true) true Tryz.f5.params.toList args.toList ds p := hA0
  rw [Tryz.params5] at hA hval
  obtain ⟨v0, vs0, d0, ds0, p0, q0, hargs, rfl, rfl, h0, r0⟩ := trodAll_cons hA
  obtain ⟨v1, vs1, d1, ds1, p1, q1, rfl, rfl, rfl, h1, r1⟩ := trodAll_cons r0
  obtain ⟨rfl, rfl, rfl⟩ := trodAll_nil r1
  obtain rfl : args = #[v0, v1] := by cases args; simp_all
  obtain ⟨rfl, rfl⟩ := trodVars_none hV
  obtain ⟨cs0, fu0, x0, rfl, t0⟩ := open_struct Tryz.underlying29 (hval 0 29 v0 rfl rfl) h0
  obtain ⟨mt, mk, md, ln, hv, fr, wh, er, kv, tn, kp, ks, rfl, hmt, htn, hr⟩ := open_metaM t0
  obtain ⟨age, rfl, rfl, rfl, _⟩ := open_int Tryz.underlying2 (hval 1 2 v1 rfl rfl) h1
  clear hA0 hval0
  refine (walk mt mk md ln hv fr wh er _ tn kp age ks W (tab_of_laid hL) (max_of_shaped hshp) hmt htn hr).mono fun e W' ⟨he, hb⟩ => ?_
  subst he
  exact ⟨_, rfl, law_close hW' rfl rfl rfl ps hb⟩

theorem row : Rows.MetaKeptSaid :=
  OpenClaim.holds_of_wide 5 Tryz.f5 rfl rfl rfl rfl rfl rfl rfl ⟨rfl, rfl, rfl, rfl, rfl⟩ rfl rfl rfl rfl rfl (by kernel_rfl) Tryz.func5 (by kernel_rfl)
    (of_decide_eq_true (by kernel_rfl)) (by unfold Func.isWrapper; first | (rw [if_pos (by decide +kernel)]; kernel_rfl) | (rw [if_neg (by decide +kernel)]; exact ⟨rfl, rfl⟩))
    (fun os started H enc _ => lifted os started H enc)
theorem proved : Rows.MetaKeptCardSaid :=
  Claim7.holds_tied_plain_at .later [] [.data, .data, .data, .data, .pinned] true (true, "7340c533c8eb8e8a62430c914fc76980a60cf950c74b93a996abb7963db00861") false
    row (fun _ h => by cases h) (by kernel_rfl) (fun _ h => by cases h) metaKept_row_tie rfl ⟨rfl, rfl⟩ (by kernel_rfl) rfl
    (fun f fn hf hfn => by
      obtain rfl : f = 5 := Option.some.inj ((show Tryz.prog.funcNamed "mandoline/mandolinelaw14.MetaKept" = some 5 by kernel_rfl).symm.trans hf) |>.symm
      obtain rfl : fn = Tryz.f5 := (Option.some.inj (Tryz.func5.symm.trans hfn)).symm
      exact ⟨by kernel_rfl, fun j t ht => by
        rw [Tryz.params5] at ht
        have hm : t ∈ [29, 2] := by simpa using Array.mem_of_getElem? ht
        have hall : ([29, 2].all fun u => !Tryz.prog.wantsStandIn u) = true := by kernel_rfl
        exact (show Tryz.prog.wantsStandIn t = false by simpa using List.all_eq_true.1 hall t hm)⟩)
    (by kernel_rfl)
#print axioms proved

end Go.Proofs.YtmelcndflllgmaaGreatDoor.metaKept
