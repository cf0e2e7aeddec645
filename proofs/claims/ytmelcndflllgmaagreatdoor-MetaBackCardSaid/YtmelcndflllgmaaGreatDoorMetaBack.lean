/-
  A right Meta is read from its fields as it was, whatever other fields stand ahead and behind.
-/
import Derived.Test.YtmelcndflllgmaaGreatDoorFrwG
import Derived.Test.YtmelcndflllgmaaGreatDoorGrFu
import Derived.Test.YtmelcndflllgmaaGreatDoorGrM
import Derived.Test.YtmelcndflllgmaaGreatDoorGrO
import Derived.Test.YtmelcndflllgmaaGreatDoorGrL
import Derived.Test.YtmelcndflllgmaaGreatDoorTie
import Derived.Test.YtmelcndflllgmaaGreatDoorCards
import Derived.SevenTiedAt
import Derived.Deep.DeepCutAuto
import Derived.Deep.RegionHeld3
import Derived.Test.YtmelcndflllgmaaGreatDoorGrU
namespace Go.Proofs.YtmelcndflllgmaaGreatDoor.metaBack
open Go.ChangeShapes Go.WideShapes Go.ChangeAt Go.RowKit Go.Deep
set_option linter.unusedVariables false
set_option linter.unusedSimpArgs false

set_option maxRecDepth 100000 in
set_option maxHeartbeats 16000000 in
theorem walk (mt : ByteArray) (mk : Bool) (md ln hv fr wh er : Int) (kv : Value) (tn : ByteArray) (kp : Bool) (age : Int) (v2 : Value) (ks : List ByteArray) (vs : List Bs) (w : World) (hT : Tab w) (hM : MaxI w.heap.size w) (hmt : mt.size ≤ 9223372036854775807) (htn : tn.size ≤ 9223372036854775807) (hr : RdStrs w w.heap.size kv ks) (hv0 : RdL LS w w.heap.size v2 vs) (hvz : ∀ x ∈ vs, x.length ≤ 9223372036854775807) : Calls Tryz.prog 4 #[.agg #[.string mt, .bool mk, .int .i64 md, .int .i64 ln, .int .i64 hv, .int .i64 fr, .int .i64 wh, .int .i64 er, kv, .string tn, .bool kp], .int .i64 age, v2] w (BoolOk true w) := by
  have HT := hide hT
  have HM := hide hM
  clear hT hM
  obtain ⟨A, c, rfl, hkc0, hc0⟩ := hr.form
  have HR0 := hide hr
  clear hr
  obtain ⟨A2, c2, hv2, _, _⟩ := hv0.form
  subst hv2
  have HV := hide (show RdL LW w w.heap.size (.slice A2 vs.length c2) vs from hv0)
  clear hv0
  go_enter Tryz.func4, Tryz.ntmps4
  go_wp2_with fail
  obtain ⟨w1, hw1⟩ : ∃ w1 : World, w1 = (w).alloc (.cells #[.string mt, .bool mk, .int .i64 md, .int .i64 ln, .int .i64 hv, .int .i64 fr, .int .i64 wh, .int .i64 er, .slice A ks.length c, .string tn, .bool kp] 29) := ⟨_, rfl⟩
  rw [← hw1]
  have hB1 : Below w.heap.size w w1 := by rw [hw1]; exact ((Below.refl _ _).alloc (Nat.le_refl _) _)
  have T : Blk w1 (w.heap.size) 29 #[.string mt, .bool mk, .int .i64 md, .int .i64 ln, .int .i64 hv, .int .i64 fr, .int .i64 wh, .int .i64 er, .slice A ks.length c, .string tn, .bool kp] := by rw [hw1]; exact (Blk.new _ _ _)
  have HR1 := hide ((HR0.out.below hB1).mono hB1.size)
  clear hw1
  have cT := T.cell
  refine (wakes_any _ (HT.out.below hB1)).mono ?_
  rintro e w2 ⟨rfl, hb2⟩
  have hB2 := hB1.trans (hb2.mono hB1.size)
  replace T := T.below hb2 T.lt
  replace HR1 := hide ((HR1.out.below hb2).mono hb2.size)
  clear cT hb2
  have cT := T.cell
  go_wp2_with fail
  refine (small_any mt mk md ln hv fr wh er _ tn kp ks _ hmt htn HR1.out).mono ?_
  rintro e w3 ⟨rfl, hb3⟩
  have hB3 := hB2.trans (hb3.mono hB2.size)
  replace T := T.below hb3 T.lt
  replace HR1 := hide ((HR1.out.below hb3).mono hb3.size)
  clear cT hb3
  have cT := T.cell
  cases q1 : smallB mt ks tn
  · go_wp2_with fail
    go_ret
    exact ⟨rfl, hB3⟩
  · clear q1
    by_cases hl10 : vs.length ≤ 10
    · have e10 : decide ((vs.length : Int) > 10) = false := decide_eq_false (by omega)
      by_cases hy : metaOk mt mk md ln hv fr wh er ks tn = true ∧ tickOk age = true
      · have HM1 := hide hy.1
        have HA := hide hy.2
        clear hy
        go_wp2_with fail
        refine (fields_yes mt mk md ln hv fr wh er _ tn kp age ks _ hmt htn HR1.out (HT.out.below hB3) HM1.out HA.out).mono ?_
        rintro e w4 ⟨v1, dt, rfl, hdt, O1, hb4⟩
        have hB4 := hB3.trans (hb4.mono hB3.size)
        replace T := T.below hb4 T.lt
        replace HR1 := hide ((HR1.out.below hb4).mono hb4.size)
        clear cT hb4
        have cT := T.cell
        obtain ⟨F, hF⟩ : ∃ x, x = fieldsF mt mk md ln hv fr wh er ks tn kp age dt := ⟨_, rfl⟩
        rw [← hF] at O1
        have ha := HA.out
        unfold tickOk at ha
        rw [decide_eq_true_eq] at ha
        have hFs : F.length ≤ 8 ∧ sumF F ≤ 9000 := by rw [hF]; exact fieldsF_small HM1.out ha.1 ha.2 hdt
        have HBK := hide (show ∀ N, SaysF N F → FromIs N (some ((⟨(mt.data.toList, mk), md, ln, hv, fr, wh, er, ks.map (·.data.toList), tn.data.toList, kp⟩ : MetaM), age)) from fun N hN => meta_back HM1.out ha.1 ha.2 hdt (by rw [← hF]; exact hN))
        clear hF ha
        obtain ⟨A1, c1, hv1, _, _⟩ := O1.rd.form
        subst hv1
        have R1 := hide O1.rd
        clear O1
        have HV4 := hide ((HV.out.below hB4).mono hB4.size)
        go_wp2_with fail
        go_loopw [9, 10, 11, 51] (fun c9 _ _ c51 wr => ∃ (k : Nat) (M : List FieldL) (V : Value), V = c9 ∧ k ≤ vs.length ∧ c51 = .int .i64 (k : Int) ∧ Hid (M = AllF (othF vs) F (vs.length / 2) k) ∧ Hid (OwnL LF w4.heap.size wr V M) ∧ Hid (∀ i (h : i < vs.length), i < k → vs[i].length ≤ 100) ∧ Below w4.heap.size w4 wr) (fun _ _ _ c51 _ => vs.length - (intOf c51).toNat)
        case atStart => exact ⟨0, [], _, rfl, Nat.zero_le _, rfl, (allF_zero _ _ _).symm, OwnL.nil _ _ _, (fun i _ h => absurd h (Nat.not_lt_zero i)), Below.refl _ _⟩
        case round =>
          obtain ⟨k, M, V, rfl, hk, rfl, HMk, HO, HZ, hb⟩ := hrel
          have hML : M.length ≤ 40 := by rw [HMk.out]; have := allF_len vs F (vs.length / 2) k; omega
          obtain ⟨A5, k5, hv5, _, _⟩ := HO.out.rd.form
          subst hv5
          by_cases hlt : k < vs.length
          · obtain ⟨b0, off, hA, hb0, c0⟩ := HV4.out.text k hlt
            subst hA
            obtain ⟨s, hs⟩ : ∃ s : ByteArray, s = ⟨vs[k].toArray⟩ := ⟨_, rfl⟩
            rw [← hs] at c0
            have d0 : wr.cell? ⟨b0, off + k, none⟩ = some (.string s) := by rw [hb.cell (show b0 < w4.heap.size from hb0)]; exact c0
            have hsx : s.data.toList = vs[k] := by rw [hs]
            have hsz : s.size = vs[k].length := by rw [← lsize, hsx]
            have hsm : s.size ≤ 9223372036854775807 := by rw [hsz]; exact hvz _ (List.getElem_mem hlt)
            have HSX := hide hsx
            have HSZ := hide hsz
            clear hs c0 hsx hsz
            by_cases h100 : 100 < s.size
            · have e1 : decide ((s.size : Int) > 100) = true := decide_eq_true (by omega)
              go_wp2_with fail
              go_ret
              exact ⟨rfl, hB4.trans (hb.mono hB4.size)⟩
            · have e1 : decide ((s.size : Int) > 100) = false := decide_eq_false (by omega)
              have HZ2 := hide (show ∀ i (h : i < vs.length), i < k + 1 → vs[i].length ≤ 100 from fun i h hi => by
                by_cases e : i = k
                · subst e; rw [← HSZ.out]; omega
                · exact HZ.out i h (by omega))
              obtain ⟨M1, hM1⟩ : ∃ x, x = if k = vs.length / 2 then M ++ F else M := ⟨_, rfl⟩
              have HM2 := hide (show M1 ++ [(nmXo, s.data.toList)] = AllF (othF vs) F (vs.length / 2) (k + 1) by
                rw [hM1, HSX.out]
                have hkx : k < (othF vs).length := by rw [othF_len]; exact hlt
                by_cases e : k = vs.length / 2
                · rw [if_pos e, allF_at hkx e, othF_at hlt, ← HMk.out]
                · rw [if_neg e, allF_off hkx e, othF_at hlt, ← HMk.out])
              have hML1 : M1.length ≤ 60 := by rw [hM1]; split <;> (try rw [List.length_append]) <;> omega
              have HM1' := hide hM1
              clear hM1
              have RF := hide (show RdL LF wr w4.heap.size (.slice A1 F.length c1) F from R1.out.below hb)
              have hq2 : ((vs.length : Int).tdiv 2) = ((vs.length / 2 : Nat) : Int) := by rw [Int.tdiv_eq_ediv_of_nonneg (by omega)]; omega
              go_upto_if 63 with fail
              go_cut [9] (fun s9 wx => ∃ V1, V1 = s9 ∧ Hid (OwnL LF w4.heap.size wx V1 M1) ∧ Below w4.heap.size w4 wx)
              case first =>
                by_cases e : k = vs.length / 2
                · have e2 : ((k : Int) == ((vs.length / 2 : Nat) : Int)) = true := by rw [beq_iff_eq]; omega
                  have HM3 := hide (show M1 = M ++ F by rw [HM1'.out, if_pos e])
                  clear e
                  go_wp2_with (first | (at_builtin; refine wpList_appL LF w4 (by rfl) (.tmp 64) (.tmp 65) _ _ (by rfl) rfl rfl w4.heap.size _ _ (by rfl) HO.out hb hb.size _ F _ (by rfl) RF.out (by decide) (by omega) ?_; intro v7 w7 O7 hB7 _ _) | fail)
                  obtain ⟨A7, c7, hv7, _, _⟩ := O7.rd.form
                  subst hv7
                  replace O7 : OwnL LF w4.heap.size w7 (.slice A7 (M ++ F).length c7) M1 := by rw [HM3.out]; exact O7
                  go_wp2_with fail
                  go_meet
                  exact ⟨_, rfl, O7, hB7⟩
                · have e2 : ((k : Int) == ((vs.length / 2 : Nat) : Int)) = false := by rw [beq_eq_false_iff_ne]; omega
                  have HM3 := hide (show M1 = M by rw [HM1'.out, if_neg e])
                  clear e
                  go_wp2_with fail
                  go_meet
                  exact ⟨_, rfl, (show OwnL LF w4.heap.size wr _ M1 by rw [HM3.out]; exact HO.out), hb⟩
              case rest =>
                clear HO hb d0 RF HM1'
                obtain ⟨V1, rfl, HO1, hb1⟩ := hcut
                obtain ⟨A6, k6, hv6, _, _⟩ := HO1.out.rd.form
                subst hv6
                have HR5 := hide (show RdL LF (wc.alloc (.cells #[.string ⟨#[88, 45, 79, 116, 104, 101, 114]⟩, .string s] 38)) (wc.heap.size + 1) (.slice (some ⟨wc.heap.size, 0, none⟩) 1 1) [(nmXo, s.data.toList)] by
                  have := RdL.one_ (L := LF) (x := (nmXo, s.data.toList)) (Blk.new wc 38 #[.string ⟨#[88, 45, 79, 116, 104, 101, 114]⟩, .string s]) (by simp [LF, nmXo])
                  simpa using this)
                go_wp2_with (first | (at_builtin; refine wpList_appL LF w4 (by rfl) (.tmp 67) (.tmp 70) _ _ (by rfl) rfl rfl w4.heap.size _ _ (by rfl) (HO1.out.alloc _) (hb1.alloc hb1.size _) (Nat.le_trans hb1.size (by simp)) _ [(nmXo, s.data.toList)] _ (by rfl) HR5.out (by decide) (by have := hML1; rw [List.length_singleton]; omega) ?_; intro v7 w7 O7 hB7 _ _) | fail)
                obtain ⟨A7, c7, hv7, _, _⟩ := O7.rd.form
                subst hv7
                go_wp2_with fail
                go_roundw
                case rel => exact ⟨k + 1, _, _, rfl, by omega, by go_num, HM2, O7, HZ2, hB7⟩
                case measure => simp [intOf] <;> omega
          · have hkn : k = vs.length := by omega
            have hvl : ∀ x ∈ vs, x.length ≤ 100 := fun x hx => by
              obtain ⟨i, hi, rfl⟩ := List.getElem_of_mem hx
              exact HZ.out i hi (by omega)
            subst hkn
            have hsm := allF_small (F := F) (h := vs.length / 2) hvl hl10 hFs.1 hFs.2
            rw [← HMk.out] at hsm
            clear hvl HZ
            obtain ⟨w5, hw5⟩ : ∃ W : World, W = wr := ⟨_, rfl⟩
            rw [← hw5] at HO hb ⊢
            clear hw5
            go_upto_if 75 with fail
            go_cut [9] (fun s9 wx => ∃ (N : List FieldL) (A9 : Option Addr) (c9 : Nat), s9 = .slice A9 N.length c9 ∧ Hid (RdL LF wx wx.heap.size (.slice A9 N.length c9) N) ∧ Hid (SaysF N F) ∧ N.length ≤ 1000 ∧ sumF N ≤ 100000 ∧ Below w4.heap.size w4 wx)
            case first =>
              by_cases h0 : vs.length = 0
              · have e1 : ((vs.length : Int) == 0) = true := by rw [beq_iff_eq]; omega
                go_wp2_with fail
                go_meet
                exact ⟨F, A1, c1, rfl, (R1.out.below hb).mono hb.size, SaysF.refl F, by omega, by omega, hb⟩
              · have e1 : ((vs.length : Int) == 0) = false := by rw [beq_eq_false_iff_ne]; omega
                have HSY := hide (show SaysF M F by rw [HMk.out]; exact allF_says (by omega))
                go_wp2_with fail
                go_meet
                exact ⟨M, A5, k5, rfl, HO.out.rd, HSY.out, hsm.1, hsm.2, hb⟩
            case rest =>
              clear HO hb HMk hsm hML
              obtain ⟨N, A9, c9, rfl, HN, HSY, hN1, hN2, hb5⟩ := hcut
              obtain ⟨w5, hw5⟩ : ∃ W : World, W = wc := ⟨_, rfl⟩
              rw [← hw5] at HN hb5 ⊢
              clear hw5
              have hB5 := hB4.trans (hb5.mono hB4.size)
              replace T := T.below hb5 T.lt
              have HR5 := hide ((HR1.out.below hb5).mono hb5.size)
              have hz1 : ∀ f ∈ N, f.1.length ≤ 1000000 := fun f hf => by have := sumF_mem hf; omega
              have hz2 : ∀ f ∈ N, f.2.length ≤ 1000000 := fun f hf => by have := sumF_mem hf; omega
              go_wp2_with fail
              refine (cfrom_any _ N w5 ((HM.out.below hB5).mono hB5.size) HN.out hz1 hz2 hN1 (by omega)).mono ?_
              intro e w6 hgot
              obtain ⟨hb6, m1, a1, er1, x1, rfl, hx1, hs1, ht1⟩ := told_of hz2 hgot
              clear hgot
              have hB6 := hB5.trans (hb6.mono hB5.size)
              obtain ⟨hm1, ha1, he1⟩ := ht1.uniq (.inr ⟨rfl, HBK.out N HSY.out⟩)
              have HMX := hide hm1
              clear hm1
              subst a1 er1
              replace T := T.below hb6 T.lt
              have HR6 := hide ((HR5.out.below hb6).mono hb6.size)
              obtain ⟨kv1, hx1', hk1⟩ := hx1
              subst hx1'
              obtain ⟨A1, c1, hkf1, _, _⟩ := hk1.form
              subst hkf1
              go_upto_region 21 with fail
              obtain ⟨w7, hw7⟩ : ∃ W : World, W = w6.alloc (.cells #[.string ⟨m1.t.1.toArray⟩, .bool m1.t.2, .int .i64 m1.md, .int .i64 m1.ln, .int .i64 m1.hv, .int .i64 m1.fr, .int .i64 m1.wh, .int .i64 m1.er, .slice A1 m1.ks.length c1, .string ⟨m1.tn.toArray⟩, .bool m1.kp] 29) := ⟨_, rfl⟩
              first | rw [← hw7] | skip
              have X : Blk w7 w6.heap.size 29 #[.string ⟨m1.t.1.toArray⟩, .bool m1.t.2, .int .i64 m1.md, .int .i64 m1.ln, .int .i64 m1.hv, .int .i64 m1.fr, .int .i64 m1.wh, .int .i64 m1.er, .slice A1 m1.ks.length c1, .string ⟨m1.tn.toArray⟩, .bool m1.kp] := by rw [hw7]; exact Blk.new _ _ _
              have hb7 : Below w6.heap.size w6 w7 := by rw [hw7]; exact (Below.refl _ _).alloc (Nat.le_refl _) _
              have hm1 : MetaAt w7 (.agg #[.string ⟨m1.t.1.toArray⟩, .bool m1.t.2, .int .i64 m1.md, .int .i64 m1.ln, .int .i64 m1.hv, .int .i64 m1.fr, .int .i64 m1.wh, .int .i64 m1.er, .slice A1 m1.ks.length c1, .string ⟨m1.tn.toArray⟩, .bool m1.kp]) m1 := MetaAt.below ⟨_, rfl, hk1⟩ hb7
              have hB7 := hB6.trans (hb7.mono hB6.size)
              clear hw7 hk1
              replace T := T.below hb7 T.lt
              have HR7 := hide ((HR6.out.below hb7).mono hb7.size)
              have HX1 := hide hm1
              have hx2 := meta_at (mt := mt) (mk := mk) (md := md) (ln := ln) (hv := hv) (fr := fr) (wh := wh) (er := er) (tn := tn) (kp := kp) HR7.out
              rw [← HMX.out] at hx2
              have HX2 := hide hx2
              clear hx2
              have HS1 := hide hs1
              clear hm1 hs1 ht1 hz1 hz2
              have cT := T.cell
              have cX := X.cell
              go_wp2_with fail
              refine (rmsame_at _ _ _ w7 HS1.out HX1.out HX2.out).mono ?_
              rintro e w8 ⟨rfl, hb8⟩
              have hB8 := hB7.trans (hb8.mono hB7.size)
              go_wp2_with fail
              go_ret
              exact ⟨rfl, hB8⟩
      · have HNO := hide (show metaOk mt mk md ln hv fr wh er ks tn = false ∨ tickOk age = false by
          cases h1 : metaOk mt mk md ln hv fr wh er ks tn
          · exact .inl rfl
          · cases h2 : tickOk age
            · exact .inr rfl
            · exact absurd ⟨h1, h2⟩ hy)
        clear hy
        go_wp2_with fail
        refine (fields_no mt mk md ln hv fr wh er _ tn kp age ks _ hmt htn HR1.out HNO.out).mono ?_
        rintro e w4 ⟨rfl, hb4⟩
        have hB4 := hB3.trans (hb4.mono hB3.size)
        replace T := T.below hb4 T.lt
        replace HR1 := hide ((HR1.out.below hb4).mono hb4.size)
        clear cT hb4
        have cT := T.cell
        go_wp2_with fail
        refine (rmeta_right mt mk md ln hv fr wh er _ tn kp ks _ hmt htn HR1.out).mono ?_
        rintro e w5 ⟨rfl, hb5⟩
        have hB5 := hB4.trans (hb5.mono hB4.size)
        replace T := T.below hb5 T.lt
        replace HR1 := hide ((HR1.out.below hb5).mono hb5.size)
        clear cT hb5
        have cT := T.cell
        cases q2 : metaOk mt mk md ln hv fr wh er ks tn
        · clear q2
          go_wp2_with fail
          go_ret
          exact ⟨rfl, hB5⟩
        · have HQ := hide q2
          clear q2
          have HA := hide (show tickOk age = false from HNO.out.resolve_left (by rw [HQ.out]; simp))
          by_cases h1 : age < 0
          · have d1 : decide (age < 0) = true := decide_eq_true h1
            clear h1
            go_wp2_with fail
            go_ret
            exact ⟨rfl, hB5⟩
          · have d1 : decide (age < 0) = false := decide_eq_false h1
            have d2 : decide (age > 1099511627776) = true := by
              have := HA.out
              unfold tickOk at this
              rw [decide_eq_false_iff_not] at this
              exact decide_eq_true (by omega)
            clear h1
            go_wp2_with fail
            go_ret
            exact ⟨rfl, hB5⟩
    · have e10 : decide ((vs.length : Int) > 10) = true := decide_eq_true (by omega)
      go_wp2_with fail
      go_ret
      exact ⟨rfl, hB3⟩

theorem ps : ∀ t ∈ Tryz.f4.params.toList, Tryz.prog.readableRec t = true ∧ t < Tryz.prog.types.size := by
  rw [Tryz.params4]
  intro t ht
  simp at ht
  rcases ht with rfl | rfl | rfl
  all_goals exact ⟨by kernel_rfl, of_decide_eq_true (by kernel_rfl)⟩

set_option maxRecDepth 100000 in
theorem lifted (os : Os) (started : os.Started) (H : Type) (enc : TypeId × Value → H) :
    ReturnsInHanded {} Tryz.checked os 4 .any (fun w args => (Rows.metaBackSpec.pre enc Tryz.prog Tryz.f4 [] false w args ∧ laidMetH Tryz.prog laidL w) ∧ sizedMet enc Tryz.prog Tryz.f4 (OpenSpec.ofChange Rows.metaBackSpec) false w args) (Rows.metaBackSpec.post enc Tryz.prog Tryz.f4 false true false false) := by
  refine returns_shaped (C := Tryz.checked) (X := fun w _ => laidMetH Tryz.prog laidL w) (fun _ _ _ hh h => h.of_heap hh) law_own started (by kernel_rfl) Tryz.func4
    (ChangeSpec.witness_shaped (enc := enc) (C := Tryz.checked) (os := os) (X := fun w _ => laidMetH Tryz.prog laidL w) false (World.laidAll Tryz.prog os laidL) #[.agg #[.string ByteArray.empty, .bool false, .int .i64 0, .int .i64 0, .int .i64 0, .int .i64 0, .int .i64 0, .int .i64 0, .slice none 0 0, .string ByteArray.empty, .bool false], .int .i64 0, .slice none 0 0] 8 (World.laidAll_os _ _ _) (World.shaped_of_ZipB (by kernel_rfl) (by kernel_rfl)) (by kernel_rfl) (by kernel_rfl) (by kernel_rfl) (by rw [MakeChecks.laidMetH_plain _ _ _ (by kernel_rfl)]; exact laidMet_laidAll _ (by kernel_rfl) (by kernel_rfl))) ?_
  intro W base args ds gs before hval0 hW hsz hL hshp
  have hval : ∀ (j : Nat) t v, Tryz.f4.params[j]? = some t → args[j]? = some v → Value.okWide Tryz.prog W .any base t v := hval0
  have hW' := hW
  have hlt : ∀ p ∈ before, p.block < W.heap.size := fun p hp => hW.lt p hp
  obtain ⟨p, q, hA0, hV, rfl, hfz, hnd⟩ := hW
  have hA : DataW.TrodAll enc Tryz.prog W 0 (fun _ => true) true Tryz.f4.params.toList args.toList ds p := hA0
  rw [Tryz.params4] at hA hval
  obtain ⟨v0, vs0, d0, ds0, p0, q0, hargs, rfl, rfl, h0, r0⟩ := trodAll_cons hA
  obtain ⟨v1, vs1, d1, ds1, p1, q1, rfl, rfl, rfl, h1, r1⟩ := trodAll_cons r0
  obtain ⟨v2, vs2, d2, ds2, p2, q2, rfl, rfl, rfl, h2, r2⟩ := trodAll_cons r1
  obtain ⟨rfl, rfl, rfl⟩ := trodAll_nil r2
  obtain rfl : args = #[v0, v1, v2] := by cases args; simp_all
  obtain ⟨rfl, rfl⟩ := trodVars_none hV
  obtain ⟨cs0, fu0, x0, rfl, t0⟩ := open_struct Tryz.underlying29 (hval 0 29 v0 rfl rfl) h0
  obtain ⟨mt, mk, md, ln, hv, fr, wh, er, kv, tn, kp, ks, rfl, hmt, htn, hr⟩ := open_metaM t0
  obtain ⟨age, rfl, rfl, rfl, _⟩ := open_int Tryz.underlying2 (hval 1 2 v1 rfl rfl) h1
  obtain ⟨vs, hv0, hvz⟩ := open_strs_arg (hval 2 27 v2 rfl rfl) h2 (fun n hn => by have := List.all_eq_true.1 hsz n (DataW.weights_mem_each (j := 2) (by rw [Tryz.params4]; rfl) rfl n hn); simpa using this)
  clear hA0 hval0
  refine (walk mt mk md ln hv fr wh er _ tn kp age _ ks vs W (tab_of_laid hL) (max_of_shaped hshp) hmt htn hr hv0 (fun x hx => by have := hvz x hx; omega)).mono fun e W' ⟨he, hb⟩ => ?_
  subst he
  exact ⟨_, rfl, law_close hW' rfl rfl rfl ps hb⟩

theorem row : Rows.MetaBackSaid :=
  OpenClaim.holds_of_wide 4 Tryz.f4 rfl rfl rfl rfl rfl rfl rfl ⟨rfl, rfl, rfl, rfl, rfl⟩ rfl rfl rfl rfl rfl (by kernel_rfl) Tryz.func4 (by kernel_rfl)
    (of_decide_eq_true (by kernel_rfl)) (by unfold Func.isWrapper; first | (rw [if_pos (by decide +kernel)]; kernel_rfl) | (rw [if_neg (by decide +kernel)]; exact ⟨rfl, rfl⟩))
    (fun os started H enc _ => lifted os started H enc)
theorem proved : Rows.MetaBackCardSaid :=
  Claim7.holds_tied_plain_at .later [] [.data, .data, .data, .data, .pinned] true (true, "7340c533c8eb8e8a62430c914fc76980a60cf950c74b93a996abb7963db00861") false
    row (fun _ h => by cases h) (by kernel_rfl) (fun _ h => by cases h) metaBack_row_tie rfl ⟨rfl, rfl⟩ (by kernel_rfl) rfl
    (fun f fn hf hfn => by
      obtain rfl : f = 4 := Option.some.inj ((show Tryz.prog.funcNamed "mandoline/mandolinelaw14.MetaBack" = some 4 by kernel_rfl).symm.trans hf) |>.symm
      obtain rfl : fn = Tryz.f4 := (Option.some.inj (Tryz.func4.symm.trans hfn)).symm
      exact ⟨by kernel_rfl, fun j t ht => by
        rw [Tryz.params4] at ht
        have hm : t ∈ [29, 2, 27] := by simpa using Array.mem_of_getElem? ht
        have hall : ([29, 2, 27].all fun u => !Tryz.prog.wantsStandIn u) = true := by kernel_rfl
        exact (show Tryz.prog.wantsStandIn t = false by simpa using List.all_eq_true.1 hall t hm)⟩)
    (by kernel_rfl)
#print axioms proved

end Go.Proofs.YtmelcndflllgmaaGreatDoor.metaBack
