/-
  Bytes that come behind any reply that is New lie one behind the other, from the reply's beginning on, and end where it ends: for every fetch, reply and list of numbers.
-/
import Derived.Test.YtdbocpgkedgpcaaFetP
import Derived.Test.YtdbocpgkedgpcaaFetE
import Derived.Test.YtdbocpgkedgpcaaOpenF
import Derived.Test.YtdbocpgkedgpcaaLift
import Derived.Test.YtdbocpgkedgpcaaFetQ
import Derived.Test.YtdbocpgkedgpcaaOpenI
import Derived.Deep.DeepCutAuto
import Derived.Deep.RegionWith
namespace Go.Proofs.Ytdbocpgkedgpcaa.fetchGoes
open Go.ChangeShapes Go.WideShapes Go.ChangeAt Go.RowKit Go.Deep
set_option linter.unusedVariables false
set_option linter.unusedSimpArgs false

theorem read_span {ob : ByteArray} {fa fb : Int} {f n : Tag} {st : Int} {mt : ByteArray} {mk : Bool} {md ln hv fr wh er : Int} {ks : List ByteArray} {tn : ByteArray} {sa sb ag : Int} (h : readV ob fa fb f n st mt mk md ln hv fr wh er ks tn sa sb ag = 1) :
    0 ≤ sa ∧ sa ≤ sb ∧ sb ≤ 4611686018427387904 := by
  obtain ⟨_, hst, hb⟩ := read_one h
  by_cases h200 : st = 200
  · obtain ⟨b1, b2, b3, b4⟩ := brings_200 hb h200
    unfold endOf at b2
    by_cases hl : ln = -1
    · rw [if_pos hl] at b2; omega
    · rw [if_neg hl] at b2; omega
  · have := brings_206 hb h200; omega
set_option maxRecDepth 100000 in
set_option maxHeartbeats 16000000 in
theorem walk (ob : ByteArray) (fa fb : Int) (ft : ByteArray) (fk : Bool) (nt : ByteArray) (nk : Bool) (st : Int) (mt : ByteArray) (mk : Bool) (md ln hv fr wh er : Int) (kv : Value) (tn : ByteArray) (kp : Bool) (sa sb ag : Int) (lv : Value) (ks : List ByteArray) (ls : List Int) (hob : ob.size ≤ 9223372036854775807) (hft : ft.size ≤ 9223372036854775807) (hnt : nt.size ≤ 9223372036854775807) (hmt : mt.size ≤ 9223372036854775807) (htn : tn.size ≤ 9223372036854775807) (w : World) (hr : RdStrs w w.heap.size kv ks) (hl : RdI64s w w.heap.size lv ls) : Calls Try.prog 5 #[.agg #[.string ob, .int .i64 fa, .int .i64 fb, .string ft, .bool fk, .string nt, .bool nk], .agg #[.int .i64 st, .string mt, .bool mk, .int .i64 md, .int .i64 ln, .int .i64 hv, .int .i64 fr, .int .i64 wh, .int .i64 er, kv, .string tn, .bool kp, .int .i64 sa, .int .i64 sb, .int .i64 ag], lv] w (BoolOk true w) := by
  obtain ⟨A, c, rfl, hkc0, hc0⟩ := hr.form
  have R0 := hide hr
  obtain ⟨hl0, hz, A3, c3, rfl, hc⟩ := hl
  have HC := hide hc
  have HZ := hide hz
  clear hr hc hz
  go_enter Try.func5, Try.ntmps5
  go_wp2_with fail
  obtain ⟨w1, hw1⟩ : ∃ w1 : World, w1 = ((w).alloc (.cells #[.string ob, .int .i64 fa, .int .i64 fb, .string ft, .bool fk, .string nt, .bool nk] 27)).alloc (.cells #[.int .i64 st, .string mt, .bool mk, .int .i64 md, .int .i64 ln, .int .i64 hv, .int .i64 fr, .int .i64 wh, .int .i64 er, .slice A ks.length c, .string tn, .bool kp, .int .i64 sa, .int .i64 sb, .int .i64 ag] 32) := ⟨_, rfl⟩
  rw [← hw1]
  have hB1 : Below w.heap.size w w1 := by rw [hw1]; exact (((Below.refl _ _).alloc (Nat.le_refl _) _).alloc (by simp; try omega) _)
  have T : Blk w1 (w.heap.size) 27 #[.string ob, .int .i64 fa, .int .i64 fb, .string ft, .bool fk, .string nt, .bool nk] := by rw [hw1]; exact ((Blk.new _ _ _).alloc _)
  have P : Blk w1 (w.heap.size + 1) 32 #[.int .i64 st, .string mt, .bool mk, .int .i64 md, .int .i64 ln, .int .i64 hv, .int .i64 fr, .int .i64 wh, .int .i64 er, .slice A ks.length c, .string tn, .bool kp, .int .i64 sa, .int .i64 sb, .int .i64 ag] := by rw [hw1]; exact (Blk.new' (by simp))
  have R1 := hide ((R0.out.below hB1).mono hB1.size)
  clear hw1
  have cT := T.cell
  have cP := P.cell
  refine (wakes38 _).mono ?_
  rintro e w2 ⟨rfl, hb2⟩
  have hB2 := hB1.trans (hb2.mono hB1.size)
  replace T := T.below hb2 T.lt
  replace P := P.below hb2 P.lt
  replace R1 := hide ((R1.out.below hb2).mono hb2.size)
  clear cT cP hb2
  have cT := T.cell
  have cP := P.cell
  go_wp2_with fail
  refine (lsmall ob fa fb ft fk nt nk _).mono ?_
  rintro e w3 ⟨b, rfl, hb3⟩
  have hB3 := hB2.trans (hb3.mono hB2.size)
  replace T := T.below hb3 T.lt
  replace P := P.below hb3 P.lt
  replace R1 := hide ((R1.out.below hb3).mono hb3.size)
  clear cT cP hb3
  have cT := T.cell
  have cP := P.cell
  cases b
  · go_wp2
    go_ret
    exact ⟨rfl, hB3⟩
  · go_wp2_with fail
    refine (lSmall st mt mk md ln hv fr wh er _ tn kp sa sb ag ks _ R1.out).mono ?_
    rintro e w4 ⟨b, rfl, hb4⟩
    have hB4 := hB3.trans (hb4.mono hB3.size)
    replace T := T.below hb4 T.lt
    replace P := P.below hb4 P.lt
    replace R1 := hide ((R1.out.below hb4).mono hb4.size)
    clear cT cP hb4
    have cT := T.cell
    have cP := P.cell
    cases b
    · go_wp2
      go_ret
      exact ⟨rfl, hB4⟩
    · by_cases n60 : 60 < (ls.length : Int)
      · have d60 : decide (60 < (ls.length : Int)) = true := by simpa using n60
        go_wp2
        go_ret
        exact ⟨rfl, hB4⟩
      · have d60 : decide (60 < (ls.length : Int)) = false := by simpa using n60
        go_wp2_with fail
        refine (rread_any ob fa fb ft fk nt nk st mt mk md ln hv fr wh er _ tn kp sa sb ag ks _ hob hft hnt hmt htn R1.out).mono ?_
        rintro e w5 ⟨rfl, hb5⟩
        have hB5 := hB4.trans (hb5.mono hB4.size)
        replace T := T.below hb5 T.lt
        replace P := P.below hb5 P.lt
        replace R1 := hide ((R1.out.below hb5).mono hb5.size)
        clear cT cP hb5
        have cT := T.cell
        have cP := P.cell
        obtain ⟨v, hv0⟩ : ∃ v, readV ob fa fb (ft, fk) (nt, nk) st mt mk md ln hv fr wh er ks tn sa sb ag = v := ⟨_, rfl⟩
        rw [hv0]
        have HV := hide hv0
        clear hv0
        by_cases hv1 : v = 1
        · subst hv1
          have h1 := (read_one HV.out).1
          go_wp2_with fail
          refine (begin_yes ob fa fb ft fk nt nk _ hob hft hnt h1).mono ?_
          rintro e w7 ⟨g, rfl, hg, X, hb7⟩
          have hB7 := hB5.trans (hb7.mono hB5.size)
          have lg : w.heap.size + 1 < g := Nat.lt_of_lt_of_le P.lt hg
          replace T := T.below hb7 T.lt
          replace P := P.below hb7 P.lt
          replace R1 := hide ((R0.out.below hB7).mono hB7.size)
          clear cT cP hb7 hg
          have cT := T.cell
          have cP := P.cell
          have cX := X.cell
          have hgw : g ≠ w7.heap.size := Nat.ne_of_lt X.lt
          go_wp2_with fail
          refine (reply_new ob fa fb ft fk nt nk st mt mk md ln hv fr wh er _ tn kp sa sb ag ks 0 0 g _ X hob hft hnt hmt htn R1.out hgw HV.out).mono ?_
          rintro e w8 ⟨rfl, X8, hb8⟩
          have hB8 := hb8.bel _ _ hB7 (by omega)
          replace T := hb8.far _ _ _ (by omega) T
          replace P := hb8.far _ _ _ (by omega) P
          clear X cT cP cX hb8
          have X := X8
          clear X8
          replace R1 := hide ((R0.out.below hB8).mono hB8.size)
          have cT := T.cell
          have cP := P.cell
          have cX := X.cell
          obtain ⟨bs0, bs1, bs2⟩ := read_span HV.out
          go_upto_region 10 with fail
          go_wp2_with fail
          clear cT cP cX T
          have hBs := hide hB8
          have XS := hide X
          have PS := hide P
          clear X P
          go_loopw [9, 56] (fun t i wr => ∃ (k : Nat) (p : Int), k ≤ ls.length ∧ i = .int .i64 k ∧ t = .int .i64 p ∧ (sa ≤ p ∧ p ≤ sb) ∧ Blk wr g 74 #[.string ob, .int .i64 fa, .int .i64 fb, .string ft, .bool fk, .string nt, .bool nk, .bool true, .bool false, .int .i64 p, .int .i64 sb] ∧ Blk wr (w.heap.size + 1) 32 #[.int .i64 st, .string mt, .bool mk, .int .i64 md, .int .i64 ln, .int .i64 hv, .int .i64 fr, .int .i64 wh, .int .i64 er, .slice A ks.length c, .string tn, .bool kp, .int .i64 sa, .int .i64 sb, .int .i64 ag] ∧ Below w.heap.size w wr) (fun _ i _ => ls.length - (intOf i).toNat)
          case atStart => exact ⟨0, sa, Nat.zero_le _, rfl, rfl, ⟨by omega, by omega⟩, XS.out, PS.out, hBs.out⟩
          case round =>
            obtain ⟨k, p, hk, rfl, rfl, hp, X, P, hB⟩ := hrel
            have cX := X.cell
            have cP := P.cell
            by_cases hlt : k < ls.length
            · obtain ⟨bb, off, rfl, hbl, c1⟩ := HC.out k hlt
              have hnb := HZ.out ls[k] (List.getElem_mem hlt)
              have d0 : wr.cell? ⟨bb, off + k, none⟩ = some (.int .i64 ls[k]) := by rw [hB.cell hbl]; exact c1
              clear c1
              obtain ⟨n, hn0⟩ : ∃ n, ls[k] = n := ⟨_, rfl⟩
              rw [hn0] at d0 hnb
              clear hn0
              by_cases hn : n < 1
              · have dn : decide (1 ≤ n) = false := by simp; omega
                go_wp2_with fail
                refine (data_low ob fa fb ft fk nt nk p sb n g _ X hn).mono ?_
                rintro e w9 ⟨rfl, hb9⟩
                have hB9 := hB.trans (hb9.mono hB.size)
                have X9 := X.below hb9 X.lt
                have P9 := P.below hb9 P.lt
                clear cX cP hb9
                go_wp2_with fail
                go_roundw
                case rel => exact ⟨k + 1, p, by omega, by go_num, rfl, hp, X9.alloc _, P9.alloc _, hB9.alloc hB9.size _⟩
                case measure => simp [intOf]; omega
              · by_cases hm : sb - p < n
                · have dn : decide (1 ≤ n) = true := by simp; omega
                  have dm : decide (n ≤ sb - p) = false := by simp; omega
                  go_wp2_with fail
                  refine (data_many ob fa fb ft fk nt nk p sb n g _ X (by omega) (by omega) (by omega) (by omega) (by omega)).mono ?_
                  rintro e w9 ⟨rfl, hb9⟩
                  have hB9 := hB.trans (hb9.mono hB.size)
                  have X9 := X.below hb9 X.lt
                  have P9 := P.below hb9 P.lt
                  clear cX cP hb9
                  have cP := fun ob' i => (P9.alloc ob').cell i
                  go_wp2_with fail
                  go_roundw
                  case rel => exact ⟨k + 1, p, by omega, by go_num, rfl, hp, X9.alloc _, P9.alloc _, hB9.alloc hB9.size _⟩
                  case measure => simp [intOf]; omega
                · have hm' : n ≤ sb - p := by omega
                  go_wp2_with fail
                  refine (data_ok ob fa fb ft fk nt nk p sb n g _ X (by omega) (by omega) (by omega) (by omega) hm').mono ?_
                  rintro e w9 ⟨rfl, X9, hb9⟩
                  have hB9 := hb9.bel _ _ hB (by omega)
                  have P9 := hb9.far _ _ _ (by omega) P
                  clear cX cP hb9
                  have cP := fun ob' i => (P9.alloc ob').cell i
                  have q1 : decide (n < 1) = false := by simp; omega
                  have q2 : (p != p) = false := by simp
                  have q3 : (p + n - p != n) = false := by rw [show p + n - p = n by omega]; simp
                  have q4 : decide (sb < p + n) = false := by simp; omega
                  go_wp2_with fail
                  go_roundw
                  case rel => exact ⟨k + 1, p + n, by omega, by go_num, rfl, by omega, X9.alloc _, P9.alloc _, hB9.alloc hB9.size _⟩
                  case measure => simp [intOf]; omega
            · by_cases he : p = sb
              · have d1 : decide (p < sb) = false := by simp; omega
                have d3 : (p == sb) = true := by simpa using he
                have d4 : (p != sb) = false := by simpa using he
                clear he
                go_wp2_with fail
                refine (rest_idle ob fa fb ft fk nt nk true false p sb g _ X (by rw [d4]; rfl)).mono ?_
                rintro e w10 ⟨rfl, hb10⟩
                have hB10 := hB.trans (hb10.mono hB.size)
                replace X := X.below hb10 X.lt
                replace P := P.below hb10 P.lt
                clear cX cP hb10
                go_upto_region 22 with fail
                obtain ⟨v10, hv10⟩ : ∃ v : World, v = w10.alloc (.cells #[.int .i64 0, .int .i64 0] 23) := ⟨_, rfl⟩
                rw [← hv10]
                replace X := X.alloc (.cells #[.int .i64 0, .int .i64 0] 23)
                rw [← hv10] at X
                replace P := P.alloc (.cells #[.int .i64 0, .int .i64 0] 23)
                rw [← hv10] at P
                have S : Blk v10 w10.heap.size 23 #[.int .i64 0, .int .i64 0] := by rw [hv10]; exact Blk.new _ _ _
                replace hB10 := hB10.alloc hB10.size (.cells #[.int .i64 0, .int .i64 0] 23)
                rw [← hv10] at hB10
                clear hv10
                have cP := P.cell
                have cS := S.cell
                have cX := X.cell
                have hvc := hide (show closeV true true p sb = 0 by unfold closeV; rw [d1]; rfl)
                have hge : w.heap.size ≤ g := by omega
                have hne : w.heap.size + 1 ≠ g := by omega
                go_upto_region 24 with fail
                first | (go_region_with ((go_at_call 22; refine (close_any ob fa fb ft fk nt nk true p sb true g _ (by first | exact X | exact X.drew)).mono ?_; rintro e w12 ⟨rfl, X12, hb12⟩; rw [hvc.out]; have hB12 := hb12.bel w.heap.size w (by first | exact hB10 | exact hB10.drew) hge; have P12 := hb12.far (w.heap.size + 1) _ _ hne (by first | exact P | exact P.drew); have cP12 := P12.cell))) | fail
                all_goals go_wp2
                all_goals go_ret
                all_goals exact ⟨rfl, by first | exact hB12 | exact hB12.drew⟩
              · have d1 : decide (p < sb) = true := by simp; omega
                have d3 : (p == sb) = false := by simpa using he
                have d4 : (p != p) = false := by simp
                have d5 : (sb != sb) = false := by simp
                by_cases ho : sb = 4611686018427387904
                · have d2 : (sb != 4611686018427387904) = false := by simpa using ho
                  have d6 : (sb == 4611686018427387904) = true := by simpa using ho
                  clear ho he
                  go_wp2_with fail
                  refine (rest_some ob fa fb ft fk nt nk p sb g _ X d3).mono ?_
                  rintro e w10 ⟨rfl, hb10⟩
                  have hB10 := hB.trans (hb10.mono hB.size)
                  replace X := X.below hb10 X.lt
                  replace P := P.below hb10 P.lt
                  clear cX cP hb10
                  go_upto_region 22 with fail
                  obtain ⟨v10, hv10⟩ : ∃ v : World, v = w10.alloc (.cells #[.int .i64 p, .int .i64 sb] 23) := ⟨_, rfl⟩
                  rw [← hv10]
                  replace X := X.alloc (.cells #[.int .i64 p, .int .i64 sb] 23)
                  rw [← hv10] at X
                  replace P := P.alloc (.cells #[.int .i64 p, .int .i64 sb] 23)
                  rw [← hv10] at P
                  have S : Blk v10 w10.heap.size 23 #[.int .i64 p, .int .i64 sb] := by rw [hv10]; exact Blk.new _ _ _
                  replace hB10 := hB10.alloc hB10.size (.cells #[.int .i64 p, .int .i64 sb] 23)
                  rw [← hv10] at hB10
                  clear hv10
                  have cP := P.cell
                  have cS := S.cell
                  have cX := X.cell
                  have hvc := hide (show closeV true true p sb = 0 by unfold closeV; rw [d1, d2]; rfl)
                  have hge : w.heap.size ≤ g := by omega
                  have hne : w.heap.size + 1 ≠ g := by omega
                  go_upto_region 24 with fail
                  first | (go_region_with ((go_at_call 22; refine (close_any ob fa fb ft fk nt nk true p sb true g _ (by first | exact X | exact X.drew)).mono ?_; rintro e w12 ⟨rfl, X12, hb12⟩; rw [hvc.out]; have hB12 := hb12.bel w.heap.size w (by first | exact hB10 | exact hB10.drew) hge; have P12 := hb12.far (w.heap.size + 1) _ _ hne (by first | exact P | exact P.drew); have cP12 := P12.cell))) | fail
                  all_goals go_wp2
                  all_goals go_ret
                  all_goals exact ⟨rfl, by first | exact hB12 | exact hB12.drew⟩
                · have d2 : (sb != 4611686018427387904) = true := by simpa using ho
                  have d6 : (sb == 4611686018427387904) = false := by simpa using ho
                  clear ho he
                  go_wp2_with fail
                  refine (rest_some ob fa fb ft fk nt nk p sb g _ X d3).mono ?_
                  rintro e w10 ⟨rfl, hb10⟩
                  have hB10 := hB.trans (hb10.mono hB.size)
                  replace X := X.below hb10 X.lt
                  replace P := P.below hb10 P.lt
                  clear cX cP hb10
                  go_upto_region 22 with fail
                  obtain ⟨v10, hv10⟩ : ∃ v : World, v = w10.alloc (.cells #[.int .i64 p, .int .i64 sb] 23) := ⟨_, rfl⟩
                  rw [← hv10]
                  replace X := X.alloc (.cells #[.int .i64 p, .int .i64 sb] 23)
                  rw [← hv10] at X
                  replace P := P.alloc (.cells #[.int .i64 p, .int .i64 sb] 23)
                  rw [← hv10] at P
                  have S : Blk v10 w10.heap.size 23 #[.int .i64 p, .int .i64 sb] := by rw [hv10]; exact Blk.new _ _ _
                  replace hB10 := hB10.alloc hB10.size (.cells #[.int .i64 p, .int .i64 sb] 23)
                  rw [← hv10] at hB10
                  clear hv10
                  have cP := P.cell
                  have cS := S.cell
                  have cX := X.cell
                  have hvc := hide (show closeV true true p sb = 13 by unfold closeV; rw [d1, d2]; rfl)
                  have hge : w.heap.size ≤ g := by omega
                  have hne : w.heap.size + 1 ≠ g := by omega
                  go_upto_region 24 with fail
                  first | (go_region_with ((go_at_call 22; refine (close_any ob fa fb ft fk nt nk true p sb true g _ (by first | exact X | exact X.drew)).mono ?_; rintro e w12 ⟨rfl, X12, hb12⟩; rw [hvc.out]; have hB12 := hb12.bel w.heap.size w (by first | exact hB10 | exact hB10.drew) hge; have P12 := hb12.far (w.heap.size + 1) _ _ hne (by first | exact P | exact P.drew); have cP12 := P12.cell))) | fail
                  all_goals go_wp2
                  all_goals go_ret
                  all_goals exact ⟨rfl, by first | exact hB12 | exact hB12.drew⟩
        · have hvn : (v != 1) = true := by simpa using hv1
          clear hv1
          go_wp2
          go_ret
          exact ⟨rfl, hB5⟩

theorem ps : ∀ t ∈ Try.f5.params.toList, Try.prog.readableRec t = true ∧ t < Try.prog.types.size := by
  rw [Try.params5]
  intro t ht
  simp at ht
  rcases ht with rfl | rfl | rfl
  all_goals exact ⟨by kernel_rfl, of_decide_eq_true (by kernel_rfl)⟩

set_option maxRecDepth 100000 in
theorem lifted (os : Os) (started : os.Started) (H : Type) (enc : TypeId × Value → H) :
    ReturnsInHanded {} Try.checked os 5 .any (Rows.fetchGoesSpec.pre6 enc Try.prog Try.f5 Rows.fetchGoesRow.domain false) (Rows.fetchGoesSpec.post enc Try.prog Try.f5 false true false false) := by
  refine returnsInHanded_of_change (C := Try.checked) law_own started (by kernel_rfl) Try.func5
    (ChangeSpec.witness6 (enc := enc) (C := Try.checked) false ⟨#[], #[.agg #[.string ByteArray.empty, .int .i64 0, .int .i64 0, .string ByteArray.empty, .bool false, .string ByteArray.empty, .bool false], .agg #[.int .i64 0, .string ByteArray.empty, .bool false, .int .i64 0, .int .i64 0, .int .i64 0, .int .i64 0, .int .i64 0, .int .i64 0, .slice none 0 0, .string ByteArray.empty, .bool false, .int .i64 0, .int .i64 0, .int .i64 0], .slice none 0 0], []⟩ 8 (by kernel_rfl) (by kernel_rfl) (by kernel_rfl) (by kernel_rfl)) ?_
  intro W base args ds gs before hval0 hW hcnd _
  have hval : ∀ (j : Nat) t v, Try.f5.params[j]? = some t → args[j]? = some v → Value.okWide Try.prog W .any base t v := hval0
  have hW' := hW
  have hlt : ∀ p ∈ before, p.block < W.heap.size := fun p hp => hW.lt p hp
  obtain ⟨p, q, hA0, hV, rfl, hfz, hnd⟩ := hW
  have hA : DataW.TrodAll enc Try.prog W 0 (fun _ => true) true Try.f5.params.toList args.toList ds p := hA0
  rw [Try.params5] at hA hval
  obtain ⟨v0, vs0, d0, ds0, p0, q0, hargs, rfl, rfl, h0, r0⟩ := trodAll_cons hA
  obtain ⟨v1, vs1, d1, ds1, p1, q1, rfl, rfl, rfl, h1, r1⟩ := trodAll_cons r0
  obtain ⟨v2, vs2, d2, ds2, p2, q2, rfl, rfl, rfl, h2, r2⟩ := trodAll_cons r1
  obtain ⟨rfl, rfl, rfl⟩ := trodAll_nil r2
  obtain rfl : args = #[v0, v1, v2] := by cases args; simp_all
  obtain ⟨rfl, rfl⟩ := trodVars_none hV
  obtain ⟨cs0, fu0, x0, rfl, t0⟩ := open_struct Try.underlying27 (hval 0 27 v0 rfl rfl) h0
  obtain ⟨ob, fa, fb, ft, fk, nt, nk, rfl, hob, hft, hnt⟩ := open_fetch t0
  obtain ⟨cs1, fu1, x1, rfl, t1⟩ := open_struct Try.underlying32 (hval 1 32 v1 rfl rfl) h1
  obtain ⟨st, mt, mk, md, ln, hv, fr, wh, er, kv, tn, kp, sa, sb, ag, ks, rfl, hmt, htn, hr⟩ := open_reply t1
  obtain ⟨ls, hl⟩ := open_i64s (hval 2 63 v2 rfl rfl) h2
  clear hA0 hval0
  refine (walk ob fa fb ft fk nt nk st mt mk md ln hv fr wh er _ tn kp sa sb ag _ ks ls hob hft hnt hmt htn W hr hl).mono fun e W' ⟨he, hb⟩ => ?_
  subst he
  exact ⟨_, rfl, law_close hW' rfl rfl rfl ps hb⟩

theorem proved : Rows.FetchGoesSaid :=
  OpenClaim.holds_of_wide 5 Try.f5 rfl rfl rfl rfl rfl rfl rfl ⟨rfl, rfl, rfl, rfl, rfl⟩ rfl rfl rfl rfl rfl (by kernel_rfl) Try.func5 (by kernel_rfl)
    (of_decide_eq_true (by kernel_rfl)) (by unfold Func.isWrapper; first | (rw [if_pos (by decide +kernel)]; kernel_rfl) | (rw [if_neg (by decide +kernel)]; exact ⟨rfl, rfl⟩))
    (fun os started H enc _ => lifted os started H enc)
#print axioms proved

end Go.Proofs.Ytdbocpgkedgpcaa.fetchGoes
