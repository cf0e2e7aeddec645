/-
  What is over stays over: for every fetch, reply and act.
-/
import Derived.Test.YtdbocpgkedgpcaaFetP
import Derived.Test.YtdbocpgkedgpcaaFetE
import Derived.Test.YtdbocpgkedgpcaaOpenF
import Derived.Test.YtdbocpgkedgpcaaLift
import Derived.Test.YtdbocpgkedgpcaaFetQ
namespace Go.Proofs.Ytdbocpgkedgpcaa.fetchOver
open Go.ChangeShapes Go.WideShapes Go.ChangeAt Go.RowKit Go.Deep
set_option linter.unusedVariables false
set_option linter.unusedSimpArgs false

set_option maxRecDepth 100000 in
set_option maxHeartbeats 16000000 in
theorem walk (ob : ByteArray) (fa fb : Int) (ft : ByteArray) (fk : Bool) (nt : ByteArray) (nk : Bool) (st : Int) (mt : ByteArray) (mk : Bool) (md ln hv fr wh er : Int) (kv : Value) (tn : ByteArray) (kp : Bool) (sa sb ag : Int) (ks : List ByteArray) (kd2 : Int) (st2 : Int) (mt2 : ByteArray) (mk2 : Bool) (md2 ln2 hv2 fr2 wh2 er2 : Int) (kv2 : Value) (tn2 : ByteArray) (kp2 : Bool) (sa2 sb2 ag2 : Int) (n2 : Int) (wl : Bool) (ks2 : List ByteArray) (hob : ob.size ≤ 9223372036854775807) (hft : ft.size ≤ 9223372036854775807) (hnt : nt.size ≤ 9223372036854775807) (hmt : mt.size ≤ 9223372036854775807) (htn : tn.size ≤ 9223372036854775807) (hmt2 : mt2.size ≤ 9223372036854775807) (htn2 : tn2.size ≤ 9223372036854775807) (w : World) (hr : RdStrs w w.heap.size kv ks) (hr2 : RdStrs w w.heap.size kv2 ks2) : Calls Try.prog 7 #[.agg #[.string ob, .int .i64 fa, .int .i64 fb, .string ft, .bool fk, .string nt, .bool nk], .agg #[.int .i64 st, .string mt, .bool mk, .int .i64 md, .int .i64 ln, .int .i64 hv, .int .i64 fr, .int .i64 wh, .int .i64 er, kv, .string tn, .bool kp, .int .i64 sa, .int .i64 sb, .int .i64 ag], .agg #[.int .u8 kd2, .int .i64 st2, .string mt2, .bool mk2, .int .i64 md2, .int .i64 ln2, .int .i64 hv2, .int .i64 fr2, .int .i64 wh2, .int .i64 er2, kv2, .string tn2, .bool kp2, .int .i64 sa2, .int .i64 sb2, .int .i64 ag2, .int .i64 n2, .bool wl]] w (BoolOk true w) := by
  obtain ⟨A, c, rfl, hkc0, hc0⟩ := hr.form
  have R0 := hide hr
  obtain ⟨A2, c2, rfl, hkc2, hc2⟩ := hr2.form
  have S0 := hide hr2
  clear hr hr2
  go_enter Try.func7, Try.ntmps7
  go_wp2_with fail
  obtain ⟨w1, hw1⟩ : ∃ w1 : World, w1 = (((w).alloc (.cells #[.string ob, .int .i64 fa, .int .i64 fb, .string ft, .bool fk, .string nt, .bool nk] 27)).alloc (.cells #[.int .i64 st, .string mt, .bool mk, .int .i64 md, .int .i64 ln, .int .i64 hv, .int .i64 fr, .int .i64 wh, .int .i64 er, .slice A ks.length c, .string tn, .bool kp, .int .i64 sa, .int .i64 sb, .int .i64 ag] 32)).alloc (.cells #[.int .u8 kd2, .int .i64 st2, .string mt2, .bool mk2, .int .i64 md2, .int .i64 ln2, .int .i64 hv2, .int .i64 fr2, .int .i64 wh2, .int .i64 er2, .slice A2 ks2.length c2, .string tn2, .bool kp2, .int .i64 sa2, .int .i64 sb2, .int .i64 ag2, .int .i64 n2, .bool wl] 40) := ⟨_, rfl⟩
  rw [← hw1]
  have hB1 : Below w.heap.size w w1 := by rw [hw1]; exact ((((Below.refl _ _).alloc (Nat.le_refl _) _).alloc (by simp; try omega) _).alloc (by simp; try omega) _)
  have T : Blk w1 (w.heap.size) 27 #[.string ob, .int .i64 fa, .int .i64 fb, .string ft, .bool fk, .string nt, .bool nk] := by rw [hw1]; exact (((Blk.new _ _ _).alloc _).alloc _)
  have P : Blk w1 (w.heap.size + 1) 32 #[.int .i64 st, .string mt, .bool mk, .int .i64 md, .int .i64 ln, .int .i64 hv, .int .i64 fr, .int .i64 wh, .int .i64 er, .slice A ks.length c, .string tn, .bool kp, .int .i64 sa, .int .i64 sb, .int .i64 ag] := by rw [hw1]; exact ((Blk.new' (by simp)).alloc _)
  have K : Blk w1 (w.heap.size + 2) 40 #[.int .u8 kd2, .int .i64 st2, .string mt2, .bool mk2, .int .i64 md2, .int .i64 ln2, .int .i64 hv2, .int .i64 fr2, .int .i64 wh2, .int .i64 er2, .slice A2 ks2.length c2, .string tn2, .bool kp2, .int .i64 sa2, .int .i64 sb2, .int .i64 ag2, .int .i64 n2, .bool wl] := by rw [hw1]; exact (Blk.new' (by simp))
  have R1 := hide ((R0.out.below hB1).mono hB1.size)
  have S1 := hide ((S0.out.below hB1).mono hB1.size)
  clear hw1
  have cT := T.cell
  have cP := P.cell
  have cK := K.cell
  refine (wakes38 _).mono ?_
  rintro e w2 ⟨rfl, hb2⟩
  have hB2 := hB1.trans (hb2.mono hB1.size)
  replace T := T.below hb2 T.lt
  replace P := P.below hb2 P.lt
  replace K := K.below hb2 K.lt
  replace R1 := hide ((R1.out.below hb2).mono hb2.size)
  replace S1 := hide ((S1.out.below hb2).mono hb2.size)
  clear cT cP cK hb2
  have cT := T.cell
  have cP := P.cell
  have cK := K.cell
  go_wp2_with fail
  refine (lsmall ob fa fb ft fk nt nk _).mono ?_
  rintro e w3 ⟨b, rfl, hb3⟩
  have hB3 := hB2.trans (hb3.mono hB2.size)
  replace T := T.below hb3 T.lt
  replace P := P.below hb3 P.lt
  replace K := K.below hb3 K.lt
  replace R1 := hide ((R1.out.below hb3).mono hb3.size)
  replace S1 := hide ((S1.out.below hb3).mono hb3.size)
  clear cT cP cK hb3
  have cT := T.cell
  have cP := P.cell
  have cK := K.cell
  cases b
  · go_wp2
    go_ret
    exact ⟨rfl, hB3⟩
  · go_wp2_with fail
    refine (lSmall st mt mk md ln hv fr wh er _ tn kp sa sb ag ks _ R1.out).mono ?_
    rintro e w4 ⟨b, rfl, hb4⟩
    have hB4 := hB3.trans (hb4.mono hB3.size)
    replace T := T.below hb4 T.lt
    replace P := P.below hb4 P.lt
    replace K := K.below hb4 K.lt
    replace R1 := hide ((R1.out.below hb4).mono hb4.size)
    replace S1 := hide ((S1.out.below hb4).mono hb4.size)
    clear cT cP cK hb4
    have cT := T.cell
    have cP := P.cell
    have cK := K.cell
    cases b
    · go_wp2
      go_ret
      exact ⟨rfl, hB4⟩
    · go_wp2_with fail
      refine (lSmall st2 mt2 mk2 md2 ln2 hv2 fr2 wh2 er2 _ tn2 kp2 sa2 sb2 ag2 ks2 _ S1.out).mono ?_
      rintro e w5 ⟨b, rfl, hb5⟩
      have hB5 := hB4.trans (hb5.mono hB4.size)
      replace T := T.below hb5 T.lt
      replace P := P.below hb5 P.lt
      replace K := K.below hb5 K.lt
      replace R1 := hide ((R1.out.below hb5).mono hb5.size)
      replace S1 := hide ((S1.out.below hb5).mono hb5.size)
      clear cT cP cK hb5
      have cT := T.cell
      have cP := P.cell
      have cK := K.cell
      cases b
      · go_wp2
        go_ret
        exact ⟨rfl, hB5⟩
      · go_wp2_with fail
        refine (rfright_any _ _ _ _ _ _ _ _ hob hft hnt).mono ?_
        rintro e w6 ⟨rfl, hb6⟩
        have hB6 := hB5.trans (hb6.mono hB5.size)
        replace T := T.below hb6 T.lt
        replace P := P.below hb6 P.lt
        replace K := K.below hb6 K.lt
        replace R1 := hide ((R1.out.below hb6).mono hb6.size)
        replace S1 := hide ((S1.out.below hb6).mono hb6.size)
        clear cT cP cK hb6
        have cT := T.cell
        have cP := P.cell
        have cK := K.cell
        cases h1 : fRight ob fa fb (ft, fk) (nt, nk)
        · go_wp2
          go_ret
          exact ⟨rfl, hB6⟩
        · go_wp2_with fail
          refine (begin_yes ob fa fb ft fk nt nk _ hob hft hnt h1).mono ?_
          rintro e w7 ⟨g, rfl, hg, X, hb7⟩
          have hB7 := hB6.trans (hb7.mono hB6.size)
          have lg : w.heap.size + 2 < g := Nat.lt_of_lt_of_le K.lt hg
          replace T := T.below hb7 T.lt
          replace P := P.below hb7 P.lt
          replace K := K.below hb7 K.lt
          replace R1 := hide ((R0.out.below hB7).mono hB7.size)
          replace S1 := hide ((S0.out.below hB7).mono hB7.size)
          clear cT cP cK hb7 hg
          have cT := T.cell
          have cP := P.cell
          have cK := K.cell
          have cX := X.cell
          have hgw : g ≠ w7.heap.size := Nat.ne_of_lt X.lt
          obtain ⟨v, hv0⟩ : ∃ v, readV ob fa fb (ft, fk) (nt, nk) st mt mk md ln hv fr wh er ks tn sa sb ag = v := ⟨_, rfl⟩
          have HV := hide hv0
          clear hv0
          by_cases hv1 : v = 1
          · subst hv1
            go_wp2_with fail
            refine (reply_new ob fa fb ft fk nt nk st mt mk md ln hv fr wh er _ tn kp sa sb ag ks 0 0 g _ X hob hft hnt hmt htn R1.out hgw HV.out).mono ?_
            rintro e w8 ⟨rfl, X8, hb8⟩
            have hB8 := hb8.bel _ _ hB7 (by omega)
            replace T := hb8.far _ _ _ (by omega) T
            replace P := hb8.far _ _ _ (by omega) P
            replace K := hb8.far _ _ _ (by omega) K
            clear X cT cP cK cX hb8
            have X := X8
            clear X8
            replace R1 := hide ((R0.out.below hB8).mono hB8.size)
            replace S1 := hide ((S0.out.below hB8).mono hB8.size)
            have cT := T.cell
            have cP := P.cell
            have cK := K.cell
            have cX := X.cell
            go_wp2_with fail
            refine (close_any ob fa fb ft fk nt nk true sa sb wl g _ X).mono ?_
            rintro e w9 ⟨rfl, X9, hb9⟩
            have hB9 := hb9.bel _ _ hB8 (by omega)
            replace T := hb9.far _ _ _ (by omega) T
            replace P := hb9.far _ _ _ (by omega) P
            replace K := hb9.far _ _ _ (by omega) K
            clear X cT cP cK cX hb9
            have X := X9
            clear X9
            replace R1 := hide ((R0.out.below hB9).mono hB9.size)
            replace S1 := hide ((S0.out.below hB9).mono hB9.size)
            have cT := T.cell
            have cP := P.cell
            have cK := K.cell
            have cX := X.cell
            go_wp2_with fail
            refine (reply_idle ob fa fb ft fk nt nk true true sa sb st2 mt2 mk2 md2 ln2 hv2 fr2 wh2 er2 _ tn2 kp2 sa2 sb2 ag2 g _ X (by simp)).mono ?_
            rintro e w10 ⟨rfl, hb10⟩
            have hB10 := hB9.trans (hb10.mono hB9.size)
            replace T := T.below hb10 T.lt
            replace P := P.below hb10 P.lt
            replace K := K.below hb10 K.lt
            replace X := X.below hb10 X.lt
            replace R1 := hide ((R1.out.below hb10).mono hb10.size)
            replace S1 := hide ((S1.out.below hb10).mono hb10.size)
            clear cT cP cK cX hb10
            have cT := T.cell
            have cP := P.cell
            have cK := K.cell
            have cX := X.cell
            go_wp2_with fail
            refine (data_idle ob fa fb ft fk nt nk true true sa sb _ g _ X (by simp)).mono ?_
            rintro e w11 ⟨rfl, hb11⟩
            have hB11 := hB10.trans (hb11.mono hB10.size)
            replace T := T.below hb11 T.lt
            replace P := P.below hb11 P.lt
            replace K := K.below hb11 K.lt
            replace X := X.below hb11 X.lt
            replace R1 := hide ((R1.out.below hb11).mono hb11.size)
            replace S1 := hide ((S1.out.below hb11).mono hb11.size)
            clear cT cP cK cX hb11
            have cT := T.cell
            have cP := P.cell
            have cK := K.cell
            have cX := X.cell
            go_wp2_with fail
            obtain ⟨vD, hvD⟩ : ∃ v : World, v = w11.alloc (.cells #[.int .i64 0, .int .i64 0] 23) := ⟨_, rfl⟩
            rw [← hvD]
            replace T := T.alloc (.cells #[.int .i64 0, .int .i64 0] 23)
            rw [← hvD] at T
            replace P := P.alloc (.cells #[.int .i64 0, .int .i64 0] 23)
            rw [← hvD] at P
            replace K := K.alloc (.cells #[.int .i64 0, .int .i64 0] 23)
            rw [← hvD] at K
            replace X := X.alloc (.cells #[.int .i64 0, .int .i64 0] 23)
            rw [← hvD] at X
            have D : Blk vD w11.heap.size 23 #[.int .i64 0, .int .i64 0] := by rw [hvD]; exact Blk.new _ _ _
            have hBD : Below w.heap.size w vD := by rw [hvD]; exact hB11.alloc hB11.size _
            replace R1 := hide ((R1.out.below (show Below w11.heap.size w11 vD by rw [hvD]; exact (Below.refl _ _).alloc (Nat.le_refl _) _)).mono (show w11.heap.size ≤ vD.heap.size by rw [hvD]; simp))
            replace S1 := hide ((S1.out.below (show Below w11.heap.size w11 vD by rw [hvD]; exact (Below.refl _ _).alloc (Nat.le_refl _) _)).mono (show w11.heap.size ≤ vD.heap.size by rw [hvD]; simp))
            clear hvD cT cP cK cX
            have cT := T.cell
            have cP := P.cell
            have cK := K.cell
            have cX := X.cell
            have cD := D.cell
            refine (rest_idle ob fa fb ft fk nt nk true true sa sb g _ X (by simp)).mono ?_
            rintro e w12 ⟨rfl, hb12⟩
            have hB12 := hBD.trans (hb12.mono hBD.size)
            replace T := T.below hb12 T.lt
            replace P := P.below hb12 P.lt
            replace K := K.below hb12 K.lt
            replace X := X.below hb12 X.lt
            replace D := D.below hb12 D.lt
            replace R1 := hide ((R1.out.below hb12).mono hb12.size)
            replace S1 := hide ((S1.out.below hb12).mono hb12.size)
            clear cT cP cK cX cD hb12
            have cT := T.cell
            have cP := P.cell
            have cK := K.cell
            have cX := X.cell
            have cD := D.cell
            go_wp2_with fail
            obtain ⟨vD2, hvD2⟩ : ∃ v : World, v = w12.alloc (.cells #[.int .i64 0, .int .i64 0] 23) := ⟨_, rfl⟩
            rw [← hvD2]
            replace T := T.alloc (.cells #[.int .i64 0, .int .i64 0] 23)
            rw [← hvD2] at T
            replace P := P.alloc (.cells #[.int .i64 0, .int .i64 0] 23)
            rw [← hvD2] at P
            replace K := K.alloc (.cells #[.int .i64 0, .int .i64 0] 23)
            rw [← hvD2] at K
            replace X := X.alloc (.cells #[.int .i64 0, .int .i64 0] 23)
            rw [← hvD2] at X
            replace D := D.alloc (.cells #[.int .i64 0, .int .i64 0] 23)
            rw [← hvD2] at D
            have D2 : Blk vD2 w12.heap.size 23 #[.int .i64 0, .int .i64 0] := by rw [hvD2]; exact Blk.new _ _ _
            have hBD2 : Below w.heap.size w vD2 := by rw [hvD2]; exact hB12.alloc hB12.size _
            replace R1 := hide ((R1.out.below (show Below w12.heap.size w12 vD2 by rw [hvD2]; exact (Below.refl _ _).alloc (Nat.le_refl _) _)).mono (show w12.heap.size ≤ vD2.heap.size by rw [hvD2]; simp))
            replace S1 := hide ((S1.out.below (show Below w12.heap.size w12 vD2 by rw [hvD2]; exact (Below.refl _ _).alloc (Nat.le_refl _) _)).mono (show w12.heap.size ≤ vD2.heap.size by rw [hvD2]; simp))
            clear hvD2 cT cP cK cX cD
            have cT := T.cell
            have cP := P.cell
            have cK := K.cell
            have cX := X.cell
            have cD := D.cell
            have cD2 := D2.cell
            refine (over_any ob fa fb ft fk nt nk true true sa sb g _ X).mono ?_
            rintro e w13 ⟨rfl, hb13⟩
            have hB13 := hBD2.trans (hb13.mono hBD2.size)
            replace T := T.below hb13 T.lt
            replace P := P.below hb13 P.lt
            replace K := K.below hb13 K.lt
            replace X := X.below hb13 X.lt
            replace D := D.below hb13 D.lt
            replace D2 := D2.below hb13 D2.lt
            replace R1 := hide ((R1.out.below hb13).mono hb13.size)
            replace S1 := hide ((S1.out.below hb13).mono hb13.size)
            clear cT cP cK cX cD cD2 hb13
            have cT := T.cell
            have cP := P.cell
            have cK := K.cell
            have cX := X.cell
            have cD := D.cell
            have cD2 := D2.cell
            go_wp2_with fail
            refine (close_over ob fa fb ft fk nt nk true sa sb _ g _ X).mono ?_
            rintro e w14 ⟨rfl, hb14⟩
            have hB14 := hB13.trans (hb14.mono hB13.size)
            replace T := T.below hb14 T.lt
            replace P := P.below hb14 P.lt
            replace K := K.below hb14 K.lt
            replace X := X.below hb14 X.lt
            replace D := D.below hb14 D.lt
            replace D2 := D2.below hb14 D2.lt
            replace R1 := hide ((R1.out.below hb14).mono hb14.size)
            replace S1 := hide ((S1.out.below hb14).mono hb14.size)
            clear cT cP cK cX cD cD2 hb14
            have cT := T.cell
            have cP := P.cell
            have cK := K.cell
            have cX := X.cell
            have cD := D.cell
            have cD2 := D2.cell
            go_wp2
            go_ret
            exact ⟨rfl, hB14⟩
          · have hvn : (v == 1) = false := by simpa using hv1
            clear hv1
            go_wp2_with fail
            refine (reply_other ob fa fb ft fk nt nk st mt mk md ln hv fr wh er _ tn kp sa sb ag ks 0 0 g _ X hob hft hnt hmt htn R1.out v HV.out hvn).mono ?_
            rintro e w8 ⟨rfl, X8, hb8⟩
            have hB8 := hb8.bel _ _ hB7 (by omega)
            replace T := hb8.far _ _ _ (by omega) T
            replace P := hb8.far _ _ _ (by omega) P
            replace K := hb8.far _ _ _ (by omega) K
            clear X cT cP cK cX hb8
            have X := X8
            clear X8
            replace R1 := hide ((R0.out.below hB8).mono hB8.size)
            replace S1 := hide ((S0.out.below hB8).mono hB8.size)
            have cT := T.cell
            have cP := P.cell
            have cK := K.cell
            have cX := X.cell
            go_wp2_with fail
            refine (reply_idle ob fa fb ft fk nt nk false true 0 0 st2 mt2 mk2 md2 ln2 hv2 fr2 wh2 er2 _ tn2 kp2 sa2 sb2 ag2 g _ X (by simp)).mono ?_
            rintro e w9 ⟨rfl, hb9⟩
            have hB9 := hB8.trans (hb9.mono hB8.size)
            replace T := T.below hb9 T.lt
            replace P := P.below hb9 P.lt
            replace K := K.below hb9 K.lt
            replace X := X.below hb9 X.lt
            replace R1 := hide ((R1.out.below hb9).mono hb9.size)
            replace S1 := hide ((S1.out.below hb9).mono hb9.size)
            clear cT cP cK cX hb9
            have cT := T.cell
            have cP := P.cell
            have cK := K.cell
            have cX := X.cell
            go_wp2_with fail
            refine (data_idle ob fa fb ft fk nt nk false true 0 0 _ g _ X (by simp)).mono ?_
            rintro e w10 ⟨rfl, hb10⟩
            have hB10 := hB9.trans (hb10.mono hB9.size)
            replace T := T.below hb10 T.lt
            replace P := P.below hb10 P.lt
            replace K := K.below hb10 K.lt
            replace X := X.below hb10 X.lt
            replace R1 := hide ((R1.out.below hb10).mono hb10.size)
            replace S1 := hide ((S1.out.below hb10).mono hb10.size)
            clear cT cP cK cX hb10
            have cT := T.cell
            have cP := P.cell
            have cK := K.cell
            have cX := X.cell
            go_wp2_with fail
            obtain ⟨vD, hvD⟩ : ∃ v : World, v = w10.alloc (.cells #[.int .i64 0, .int .i64 0] 23) := ⟨_, rfl⟩
            rw [← hvD]
            replace T := T.alloc (.cells #[.int .i64 0, .int .i64 0] 23)
            rw [← hvD] at T
            replace P := P.alloc (.cells #[.int .i64 0, .int .i64 0] 23)
            rw [← hvD] at P
            replace K := K.alloc (.cells #[.int .i64 0, .int .i64 0] 23)
            rw [← hvD] at K
            replace X := X.alloc (.cells #[.int .i64 0, .int .i64 0] 23)
            rw [← hvD] at X
            have D : Blk vD w10.heap.size 23 #[.int .i64 0, .int .i64 0] := by rw [hvD]; exact Blk.new _ _ _
            have hBD : Below w.heap.size w vD := by rw [hvD]; exact hB10.alloc hB10.size _
            replace R1 := hide ((R1.out.below (show Below w10.heap.size w10 vD by rw [hvD]; exact (Below.refl _ _).alloc (Nat.le_refl _) _)).mono (show w10.heap.size ≤ vD.heap.size by rw [hvD]; simp))
            replace S1 := hide ((S1.out.below (show Below w10.heap.size w10 vD by rw [hvD]; exact (Below.refl _ _).alloc (Nat.le_refl _) _)).mono (show w10.heap.size ≤ vD.heap.size by rw [hvD]; simp))
            clear hvD cT cP cK cX
            have cT := T.cell
            have cP := P.cell
            have cK := K.cell
            have cX := X.cell
            have cD := D.cell
            refine (rest_idle ob fa fb ft fk nt nk false true 0 0 g _ X (by simp)).mono ?_
            rintro e w11 ⟨rfl, hb11⟩
            have hB11 := hBD.trans (hb11.mono hBD.size)
            replace T := T.below hb11 T.lt
            replace P := P.below hb11 P.lt
            replace K := K.below hb11 K.lt
            replace X := X.below hb11 X.lt
            replace D := D.below hb11 D.lt
            replace R1 := hide ((R1.out.below hb11).mono hb11.size)
            replace S1 := hide ((S1.out.below hb11).mono hb11.size)
            clear cT cP cK cX cD hb11
            have cT := T.cell
            have cP := P.cell
            have cK := K.cell
            have cX := X.cell
            have cD := D.cell
            go_wp2_with fail
            obtain ⟨vD2, hvD2⟩ : ∃ v : World, v = w11.alloc (.cells #[.int .i64 0, .int .i64 0] 23) := ⟨_, rfl⟩
            rw [← hvD2]
            replace T := T.alloc (.cells #[.int .i64 0, .int .i64 0] 23)
            rw [← hvD2] at T
            replace P := P.alloc (.cells #[.int .i64 0, .int .i64 0] 23)
            rw [← hvD2] at P
            replace K := K.alloc (.cells #[.int .i64 0, .int .i64 0] 23)
            rw [← hvD2] at K
            replace X := X.alloc (.cells #[.int .i64 0, .int .i64 0] 23)
            rw [← hvD2] at X
            replace D := D.alloc (.cells #[.int .i64 0, .int .i64 0] 23)
            rw [← hvD2] at D
            have D2 : Blk vD2 w11.heap.size 23 #[.int .i64 0, .int .i64 0] := by rw [hvD2]; exact Blk.new _ _ _
            have hBD2 : Below w.heap.size w vD2 := by rw [hvD2]; exact hB11.alloc hB11.size _
            replace R1 := hide ((R1.out.below (show Below w11.heap.size w11 vD2 by rw [hvD2]; exact (Below.refl _ _).alloc (Nat.le_refl _) _)).mono (show w11.heap.size ≤ vD2.heap.size by rw [hvD2]; simp))
            replace S1 := hide ((S1.out.below (show Below w11.heap.size w11 vD2 by rw [hvD2]; exact (Below.refl _ _).alloc (Nat.le_refl _) _)).mono (show w11.heap.size ≤ vD2.heap.size by rw [hvD2]; simp))
            clear hvD2 cT cP cK cX cD
            have cT := T.cell
            have cP := P.cell
            have cK := K.cell
            have cX := X.cell
            have cD := D.cell
            have cD2 := D2.cell
            refine (over_any ob fa fb ft fk nt nk false true 0 0 g _ X).mono ?_
            rintro e w12 ⟨rfl, hb12⟩
            have hB12 := hBD2.trans (hb12.mono hBD2.size)
            replace T := T.below hb12 T.lt
            replace P := P.below hb12 P.lt
            replace K := K.below hb12 K.lt
            replace X := X.below hb12 X.lt
            replace D := D.below hb12 D.lt
            replace D2 := D2.below hb12 D2.lt
            replace R1 := hide ((R1.out.below hb12).mono hb12.size)
            replace S1 := hide ((S1.out.below hb12).mono hb12.size)
            clear cT cP cK cX cD cD2 hb12
            have cT := T.cell
            have cP := P.cell
            have cK := K.cell
            have cX := X.cell
            have cD := D.cell
            have cD2 := D2.cell
            go_wp2_with fail
            refine (close_over ob fa fb ft fk nt nk false 0 0 _ g _ X).mono ?_
            rintro e w13 ⟨rfl, hb13⟩
            have hB13 := hB12.trans (hb13.mono hB12.size)
            replace T := T.below hb13 T.lt
            replace P := P.below hb13 P.lt
            replace K := K.below hb13 K.lt
            replace X := X.below hb13 X.lt
            replace D := D.below hb13 D.lt
            replace D2 := D2.below hb13 D2.lt
            replace R1 := hide ((R1.out.below hb13).mono hb13.size)
            replace S1 := hide ((S1.out.below hb13).mono hb13.size)
            clear cT cP cK cX cD cD2 hb13
            have cT := T.cell
            have cP := P.cell
            have cK := K.cell
            have cX := X.cell
            have cD := D.cell
            have cD2 := D2.cell
            go_wp2
            go_ret
            exact ⟨rfl, hB13⟩

theorem ps : ∀ t ∈ Try.f7.params.toList, Try.prog.readableRec t = true ∧ t < Try.prog.types.size := by
  rw [Try.params7]
  intro t ht
  simp at ht
  rcases ht with rfl | rfl | rfl
  all_goals exact ⟨by kernel_rfl, of_decide_eq_true (by kernel_rfl)⟩

set_option maxRecDepth 100000 in
theorem lifted (os : Os) (started : os.Started) (H : Type) (enc : TypeId × Value → H) :
    ReturnsInHanded {} Try.checked os 7 .any (Rows.fetchOverSpec.pre6 enc Try.prog Try.f7 Rows.fetchOverRow.domain false) (Rows.fetchOverSpec.post enc Try.prog Try.f7 false true false false) := by
  refine returnsInHanded_of_change (C := Try.checked) law_own started (by kernel_rfl) Try.func7
    (ChangeSpec.witness6 (enc := enc) (C := Try.checked) false ⟨#[], #[.agg #[.string ByteArray.empty, .int .i64 0, .int .i64 0, .string ByteArray.empty, .bool false, .string ByteArray.empty, .bool false], .agg #[.int .i64 0, .string ByteArray.empty, .bool false, .int .i64 0, .int .i64 0, .int .i64 0, .int .i64 0, .int .i64 0, .int .i64 0, .slice none 0 0, .string ByteArray.empty, .bool false, .int .i64 0, .int .i64 0, .int .i64 0], .agg #[.int .u8 0, .int .i64 0, .string ByteArray.empty, .bool false, .int .i64 0, .int .i64 0, .int .i64 0, .int .i64 0, .int .i64 0, .int .i64 0, .slice none 0 0, .string ByteArray.empty, .bool false, .int .i64 0, .int .i64 0, .int .i64 0, .int .i64 0, .bool false]], []⟩ 8 (by kernel_rfl) (by kernel_rfl) (by kernel_rfl) (by kernel_rfl)) ?_
  intro W base args ds gs before hval0 hW hcnd _
  have hval : ∀ (j : Nat) t v, Try.f7.params[j]? = some t → args[j]? = some v → Value.okWide Try.prog W .any base t v := hval0
  have hW' := hW
  have hlt : ∀ p ∈ before, p.block < W.heap.size := fun p hp => hW.lt p hp
  obtain ⟨p, q, hA0, hV, rfl, hfz, hnd⟩ := hW
  have hA : DataW.TrodAll enc Try.prog W 0 (fun _ => true) true Try.f7.params.toList args.toList ds p := hA0
  rw [Try.params7] at hA hval
  obtain ⟨v0, vs0, d0, ds0, p0, q0, hargs, rfl, rfl, h0, r0⟩ := trodAll_cons hA
  obtain ⟨v1, vs1, d1, ds1, p1, q1, rfl, rfl, rfl, h1, r1⟩ := trodAll_cons r0
  obtain ⟨v2, vs2, d2, ds2, p2, q2, rfl, rfl, rfl, h2, r2⟩ := trodAll_cons r1
  obtain ⟨rfl, rfl, rfl⟩ := trodAll_nil r2
  obtain rfl : args = #[v0, v1, v2] := by cases args; simp_all
  obtain ⟨rfl, rfl⟩ := trodVars_none hV
  obtain ⟨cs0, fu0, x0, rfl, t0⟩ := open_struct Try.underlying27 (hval 0 27 v0 rfl rfl) h0
  obtain ⟨ob, fa, fb, ft, fk, nt, nk, rfl, hob, hft, hnt⟩ := open_fetch t0
  obtain ⟨cs1, fu1, x1, rfl, t1⟩ := open_struct Try.underlying32 (hval 1 32 v1 rfl rfl) h1
  obtain ⟨st, mt, mk, md, ln, hv, fr, wh, er, kv, tn, kp, sa, sb, ag, ks, rfl, hmt, htn, hr⟩ := open_reply t1
  obtain ⟨cs2, fu2, x2, rfl, t2⟩ := open_struct Try.underlying40 (hval 2 40 v2 rfl rfl) h2
  obtain ⟨kd2, st2, mt2, mk2, md2, ln2, hv2, fr2, wh2, er2, kv2, tn2, kp2, sa2, sb2, ag2, ks2, n2, wl2, rfl, hmt2, htn2, hr2, hkd2, hnn2⟩ := open_act t2
  clear hA0 hval0
  refine (walk ob fa fb ft fk nt nk st mt mk md ln hv fr wh er _ tn kp sa sb ag ks kd2 st2 mt2 mk2 md2 ln2 hv2 fr2 wh2 er2 _ tn2 kp2 sa2 sb2 ag2 n2 wl2 ks2 hob hft hnt hmt htn hmt2 htn2 W hr hr2).mono fun e W' ⟨he, hb⟩ => ?_
  subst he
  exact ⟨_, rfl, law_close hW' rfl rfl rfl ps hb⟩

theorem proved : Rows.FetchOverSaid :=
  OpenClaim.holds_of_wide 7 Try.f7 rfl rfl rfl rfl rfl rfl rfl ⟨rfl, rfl, rfl, rfl, rfl⟩ rfl rfl rfl rfl rfl (by kernel_rfl) Try.func7 (by kernel_rfl)
    (of_decide_eq_true (by kernel_rfl)) (by unfold Func.isWrapper; first | (rw [if_pos (by decide +kernel)]; kernel_rfl) | (rw [if_neg (by decide +kernel)]; exact ⟨rfl, rfl⟩))
    (fun os started H enc _ => lifted os started H enc)
#print axioms proved

end Go.Proofs.Ytdbocpgkedgpcaa.fetchOver
