/-
  However bytes are dealt, piece by piece or at once, the same of them is read: for every kind, size and list of pieces.
-/
import Derived.Test.YtiigkacmahecaaaDoorFrW
import Derived.Test.YtiigkacmahecaaaDoorFrJ
import Derived.Test.YtiigkacmahecaaaDoorGrL
import Derived.Test.YtiigkacmahecaaaDoorTie
import Derived.Test.YtiigkacmahecaaaDoorCards
import Derived.SevenTiedAt
import Derived.Deep.DeepCutAuto
import Derived.Test.YtiigkacmahecaaaDoorFrK
import Derived.Test.YtiigkacmahecaaaDoorGrCp
import Derived.Test.YtiigkacmahecaaaDoorStrL
namespace Go.Proofs.YtiigkacmahecaaaDoor.frameDealt
open Go.ChangeShapes Go.WideShapes Go.ChangeAt Go.RowKit Go.Deep
set_option linter.unusedVariables false
set_option linter.unusedSimpArgs false

theorem rdbb_below {w w1 : World} {A : Option Addr} {c : Nat} {ls : List BsZ} (h : RdBB w A c ls) (hb : Below w.heap.size w w1) : RdBB w1 A c ls := by
  refine ⟨h.1, fun i hi => ?_⟩
  obtain ⟨b, off, e, hlt, hc, hrb, hz⟩ := h.2 i hi
  exact ⟨b, off, e, Nat.lt_of_lt_of_le hlt hb.size, by rw [hb.cell (show b < w.heap.size from hlt)]; exact hc, ⟨hrb.1, hrb.2.1, fun hl => ((hrb.2.2 hl).below hb).mono hb.size⟩, hz⟩
theorem bytes_eta (x : ByteArray) : (⟨x.data.toList.toArray⟩ : ByteArray) = x := by simp

set_option maxRecDepth 100000 in
set_option maxHeartbeats 16000000 in
theorem walk (kd sz : Int) (A : Option Addr) (c : Nat) (ls : List BsZ) (w : World) (hr : RdBB w A c ls) : Calls Tryd.prog 8 #[.int .i64 kd, .int .i64 sz, .slice A ls.length c] w (BoolOk true w) := by
  have hB0 := Below.refl w.heap.size w
  go_enter Tryd.func8, Tryd.ntmps8
  go_wp2_with fail
  refine (awake_any _).mono ?_
  rintro e w1 ⟨rfl, hb1⟩
  have hB1 := hB0.trans (hb1.mono hB0.size)
  go_wp2_with fail
  refine (great13_any A c ls w1 (rdbb_below hr hB1)).mono ?_
  rintro e w' ⟨r, rfl, rfl, hg⟩
  cases r
  · have hsum := hg rfl
    clear hg
    by_cases hok : okN kd sz
    · go_wp2_with fail
      refine (new_yes kd sz hok w1).mono ?_
      rintro e w3 ⟨g, h, rfl, hg, hh, P, hb3⟩
      have hB3 := hB1.trans (hb3.mono hB1.size)
      have lg := Nat.le_trans hB1.size hg
      have lh := Nat.le_trans hB1.size hh
      have pl := P.blk.lt
      have pl2 := P.lt
      go_wp2_with fail
      refine (new_yes kd sz hok w3).mono ?_
      rintro e w4 ⟨g', h', rfl, hg', hh', Q, hb4⟩
      have hB4 := hB3.trans (hb4.mono hB3.size)
      have lg' := Nat.le_trans hB3.size hg'
      have lh' := Nat.le_trans hB3.size hh'
      replace P := P.below hb4 pl pl2
      have n1 : g' ≠ g := by omega
      have n2 : g' ≠ h := by omega
      have n3 : h' ≠ g := by omega
      have n4 : h' ≠ h := by omega
      have hinv : invF (Rf.new kd.toNat sz.toNat) := inv_new (by have := hok.1; omega) (by have := hok.2; omega)
      have HD0 := hide (DealtF.zero hinv)
      have hI0 := hide hinv
      obtain ⟨r0, hr0⟩ : ∃ x, x = Rf.new kd.toNat sz.toNat := ⟨_, rfl⟩
      rw [← hr0] at P Q HD0 hI0
      clear hr0 hinv hb3 hb4 hg hh hg' hh' pl pl2 hok hB3
      have HR := hide hr
      clear hr
      go_wp2_with fail
      go_loopw [11, 12, 13, 14, 16, 17, 18, 19, 61] (fun c11 c12 c13 c14 _ _ _ _ c61 wr => ∃ (k read : Nat) (al gt : ByteArray) (fl : Bool) (t : Rf), k ≤ ls.length ∧ c61 = .int .i64 (k : Int) ∧ c11 = .string al ∧ c12 = .string gt ∧ c13 = .int .i64 (read : Int) ∧ c14 = .bool fl ∧ Hid (al.data.toList = flatB (ls.take k)) ∧ Hid (DealtF r0 (flatB (ls.take k)) t gt.data.toList read fl) ∧ PR wr g h t ∧ PR wr g' h' r0 ∧ Below w.heap.size w wr) (fun _ _ _ _ _ _ _ _ c61 _ => ls.length - (intOf c61).toNat)
      case atStart => exact ⟨0, 0, ⟨#[]⟩, ⟨#[]⟩, false, r0, Nat.zero_le _, rfl, rfl, rfl, rfl, rfl, rfl, HD0.out, P, Q, hB4⟩
      case round =>
        clear P Q hB4
        obtain ⟨k, read, al, gt, fl, t, hk, rfl, rfl, rfl, rfl, rfl, HA, HDF, P, Q, hb⟩ := hrel
        by_cases hlt : k < ls.length
        · obtain ⟨b0, off, hA, hb0, c0, hRB, hz⟩ := HR.out.2 k hlt
          subst hA
          have hbl := flat_mem hlt
          have hfl := flat_le ls k
          have hft := flat_take hlt
          obtain ⟨A1, k1, bs, hbk⟩ : ∃ a b c, ls[k] = (a, b, c) := ⟨_, _, _, rfl⟩
          rw [hbk] at c0 hRB hbl hft
          simp only at hRB hbl hft
          have c0' : wr.cell? ⟨b0, off + k, none⟩ = some (.slice A1 bs.length k1) := by rw [hb.cell (show b0 < w.heap.size from hb0)]; exact c0
          have HY := hide (((hRB.2.2 (by omega)).below hb).mono hb.size)
          have s1 := run_byt_string wr _ _ _ HY.out
          have hals : al.size = (flatB (ls.take k)).length := by rw [← lsize, HA.out]
          obtain ⟨al2, HA1, HA2, hadd⟩ := add_named al ⟨bs.toArray⟩ 600 600 (by omega) (by show bs.toArray.size ≤ 600; simp; omega) (by omega)
          have HA3 := hide (show al2.data.toList = flatB (ls.take (k + 1)) by rw [HA1.out, HA.out, hft])
          have hal2 : al2.size = al.size + bs.length := by rw [← lsize, ← lsize al, HA1.out, List.length_append]
          have HFT := hide hft
          have kc0 := hb0
          clear hbk hft c0 hRB
          cases fl
          · by_cases hre : read = (flatB (ls.take k)).length
            · have e1 : ((read : Int) != (al2.size : Int) - (bs.length : Int)) = false := bneF (by omega)
              have hgs : gt.size ≤ 600 := by have h1 := (takeF_len r0 (flatB (ls.take k))).1; have h2 := HDF.out.d; simp only [Bool.false_eq_true, if_false] at h2; rw [h2, lsize] at h1; omega
              have hrs : read ≤ 600 := by rw [hre]; omega
              have hzz : OwnB wr.heap.size (wr.alloc (.cells #[] 5)) (.slice (some ⟨wr.heap.size, 0, none⟩) 0 0) [] := OwnB.build wr [] (by simp)
              have HZZ := hide hzz
              have hbA : Below wr.heap.size wr (wr.alloc (.cells #[] 5)) := (Below.refl _ _).alloc (Nat.le_refl _) _
              have HU := hide (HY.out.below hbA)
              have HL1 := hide (show ([] : List UInt8).length + bs.length ≤ 140737488355328 by rw [List.length_nil]; omega)
              clear hzz
              go_wp2_with (first | (at_builtin; refine wpList_appG rfl (.tmp 81) (.tmp 82) rfl wr.heap.size _ [] rfl HZZ.out (by simp) _ bs _ rfl HU.out HL1.out ?_; intro v7 w7 ho7 hg7; rw [List.nil_append] at ho7) | fail)
              have hb7 : Below wr.heap.size wr w7 := HZZ.out.belg hbA hg7 (by simp)
              have P7 := P.below hb7 P.blk.lt P.lt
              have Q7 := Q.below hb7 Q.blk.lt Q.lt
              have hB7 := hb.trans (hb7.mono hb.size)
              have Y7 := ho7.byt (by omega)
              clear HU HL1 HZZ hbA HY P Q hb
              refine (take_frame t _ _ g h w7 P7 HDF.out.inv Y7).mono ?_
              intro e w8 hp
              unfold TakesF at hp
              have hmore := HDF.out.more hI0.out (b := bs) hre
              rw [← HFT.out] at hmore
              have htl := takeF_len t bs
              have hte := takeF_e t bs
              obtain ⟨t8, d8, n8, e8, hT8⟩ : ∃ a b c d, takeF t bs = ⟨a, b, c, d⟩ := ⟨_, _, _, _, rfl⟩
              rw [hT8] at hp hmore htl hte
              simp only at hmore htl hte
              clear hT8
              obtain ⟨v8, rfl, ho8, P8, hb8⟩ := hp
              replace ho8 : OwnB w7.heap.size w8 v8 d8 := ho8
              replace P8 : PR w8 g h t8 := P8
              have Q8 := Q7.but2 hb8 n1 n2 n3 n4
              have hB8 := hb8.bel hB7 lg lh hB7.size
              have s8 := run_byt_string w8 _ v8 _ (ho8.byt (by omega))
              obtain ⟨gt2, HG1, HG2, hgadd⟩ := add_named gt ⟨d8.toArray⟩ 600 600 hgs (by show d8.toArray.size ≤ 600; simp; omega) (by omega)
              have HG3 := hide (show gt2.data.toList = gt.data.toList ++ d8 by rw [HG1.out])
              have HM := hide (show DealtF r0 (flatB (ls.take (k + 1))) t8 gt2.data.toList (read + n8) (decide (e8 ≠ 0)) by rw [HG3.out]; exact hmore)
              clear hmore HDF HG1 HG3 P7 Q7 Y7 ho7 hg7 hb7 hB7 hb8 s1 kc0 c0'
              by_cases he8 : e8 = 0
              · subst he8
                have HM2 := hide (show DealtF r0 (flatB (ls.take (k + 1))) t8 gt2.data.toList (read + n8) false from HM.out)
                clear HM
                go_wp2_with fail
                go_roundw
                case rel => exact ⟨k + 1, read + n8, al2, gt2, false, t8, by omega, by go_num, rfl, rfl, by go_num, rfl, HA3, HM2, P8, Q8, hB8⟩
                case measure => simp [intOf] <;> omega
              · have he9 : ((e8 : Int) != 0) = true := bneT (by omega)
                have HM2 := hide (show DealtF r0 (flatB (ls.take (k + 1))) t8 gt2.data.toList (read + n8) true by have := HM.out; rw [decide_eq_true he8] at this; exact this)
                clear HM he8 hte
                go_wp2_with fail
                go_roundw
                case rel => exact ⟨k + 1, read + n8, al2, gt2, true, t8, by omega, by go_num, rfl, rfl, by go_num, rfl, HA3, HM2, P8, Q8, hB8⟩
                case measure => simp [intOf] <;> omega
            · have e1 : ((read : Int) != (al2.size : Int) - (bs.length : Int)) = true := bneT (by omega)
              have HM := hide (show DealtF r0 (flatB (ls.take (k + 1))) t gt.data.toList read false by rw [HFT.out]; exact HDF.out.stop hI0.out hre)
              clear HDF
              go_wp2_with fail
              go_roundw
              case rel => exact ⟨k + 1, read, al2, gt, false, t, by omega, by go_num, rfl, rfl, rfl, rfl, HA3, HM, P, Q, hb⟩
              case measure => simp [intOf] <;> omega
          · have HM := hide (show DealtF r0 (flatB (ls.take (k + 1))) t gt.data.toList read true by rw [HFT.out]; exact HDF.out.fail hI0.out)
            clear HDF
            go_wp2_with fail
            go_roundw
            case rel => exact ⟨k + 1, read, al2, gt, true, t, by omega, by go_num, rfl, rfl, rfl, rfl, HA3, HM, P, Q, hb⟩
            case measure => simp [intOf] <;> omega
        · have hkn : k = ls.length := by omega
          subst hkn
          rw [List.take_length] at HA HDF
          have has : al.size ≤ 600 := by rw [← lsize, HA.out]; omega
          have has2 : al.size ≤ 1000000 := by omega
          have hcv := fun W => run_bytes_of_string (P := Tryd.prog) W 9 43 5 al Tryd.underlying9 Tryd.underlying43 Tryd.underlying5
          go_wp2_with fail
          obtain ⟨K, hK⟩ : ∃ k, grownCap wr al.size 0 5 = k := ⟨_, rfl⟩
          have hK1 : al.size ≤ K := by rw [← hK]; exact grownCap_ge _ _ _ _
          have hK2 : K ≤ maxLen := by rw [← hK]; exact grownCap_le_maxLen _ _ _ _ (by simp only [maxLen]; omega)
          rw [hK]
          clear hK hcv
          obtain ⟨w1, hw1⟩ : ∃ w1 : World, w1 = (wr.alloc (.cells (bytesRow al K) 5 ((bytesRow al K).size, (bytesRow al K).size + 1))).drew := ⟨_, rfl⟩
          rw [← hw1]
          have hbl1 : Below wr.heap.size wr w1 := by rw [hw1]; exact ((Below.refl _ _).alloc (Nat.le_refl _) _).drew
          have ho1 : OwnM wr.heap.size w1 (.slice (some ⟨wr.heap.size, 0, none⟩) al.size K) al.data.toList := by rw [hw1]; exact OwnM.string wr al has2 K hK1 (by simp only [maxLen] at hK2; omega) wr.drew rfl
          rw [HA.out] at ho1
          clear hw1
          have P1 := P.below hbl1 P.blk.lt P.lt
          have Q1 := Q.below hbl1 Q.blk.lt Q.lt
          have hB1 := hb.trans (hbl1.mono hb.size)
          refine (take_frame r0 _ _ g' h' w1 Q1 hI0.out (ho1.byt (by omega))).mono ?_
          intro e w8 hp
          unfold TakesF at hp
          have hD := HDF.out
          have htl := takeF_len r0 (flatB ls)
          obtain ⟨t8, d8, n8, e8, hT8⟩ : ∃ a b c d, takeF r0 (flatB ls) = ⟨a, b, c, d⟩ := ⟨_, _, _, _, rfl⟩
          have he := hD.e
          have hn := hD.n
          have hd := hD.d
          have hst := hD.st
          rw [hT8] at hp he hn hd hst htl
          simp only at he hn hd hst htl
          have hinv8 : invF t8 := by have := inv_takeF hI0.out (flatB ls); rw [hT8] at this; exact this
          obtain ⟨v8, rfl, ho8, P8, hb8⟩ := hp
          replace ho8 : OwnB w1.heap.size w8 v8 d8 := ho8
          replace P8 : PR w8 g' h' t8 := P8
          have hB8 := hb8.bel hB1 lg' lh' hB1.size
          have T8 := P1.but2 hb8 n1.symm n3.symm n2.symm n4.symm
          subst hn
          cases fl
          · have he0 : e8 = 0 := by simpa using he
            have hd0 : d8 = gt.data.toList := by simpa using hd
            have ht0 : t8 = t := hst rfl
            subst he0 ht0
            have s8 := run_byt_string w8 _ v8 _ (ho8.byt (by omega))
            rw [hd0, bytes_eta] at s8
            have hdn := done_frame t8 g h w8 T8 hinv8
            have hdn2 := done_frame t8 g' h' w8 P8 hinv8
            clear he hd hst hD HDF hT8 htl HA
            go_wp2_with fail
            refine hdn.mono ?_
            rintro e w' ⟨rfl, rfl⟩
            go_wp2_with fail
            refine hdn2.mono ?_
            rintro e w' ⟨rfl, rfl⟩
            go_wp2_with fail
            go_ret
            exact ⟨rfl, hB8⟩
          · have he0 : e8 = 2 := by simpa using he
            have hd0 : d8 = [] := by simpa using hd
            subst he0 hd0
            obtain ⟨A8, c8, hv8, _, _⟩ := (ho8.byt (by simp)).form
            subst hv8
            clear he hd hst hD HDF hT8 htl HA
            go_wp2_with fail
            go_ret
            exact ⟨rfl, hB8⟩
    · go_wp2_with fail
      refine (new_no kd sz hok w1).mono ?_
      rintro e w' ⟨rfl, rfl⟩
      go_wp2_with fail
      refine (new_no kd sz hok w1).mono ?_
      rintro e w' ⟨rfl, rfl⟩
      go_wp2_with fail
      go_ret
      exact ⟨rfl, hB1⟩
  · go_wp2_with fail
    refine (awake_any _).mono ?_
    rintro e w2 ⟨rfl, hb2⟩
    have hB2 := hB1.trans (hb2.mono hB1.size)
    go_wp2_with fail
    go_ret
    exact ⟨rfl, hB2⟩

theorem ps : ∀ t ∈ Tryd.f8.params.toList, Tryd.prog.readableRec t = true ∧ t < Tryd.prog.types.size := by
  rw [Tryd.params8]
  intro t ht
  simp at ht
  rcases ht with rfl | rfl | rfl
  all_goals exact ⟨by kernel_rfl, of_decide_eq_true (by kernel_rfl)⟩

set_option maxRecDepth 100000 in
theorem lifted (os : Os) (started : os.Started) (H : Type) (enc : TypeId × Value → H) :
    ReturnsInHanded {} Tryd.checked os 8 .any (fun w args => (Rows.frameDealtSpec.pre enc Tryd.prog Tryd.f8 [] false w args ∧ laidMetH Tryd.prog laidL w) ∧ sizedMet enc Tryd.prog Tryd.f8 (OpenSpec.ofChange Rows.frameDealtSpec) false w args) (Rows.frameDealtSpec.post enc Tryd.prog Tryd.f8 false true false false) := by
  refine returnsInHanded_of_change_and (C := Tryd.checked) (X := fun w _ => laidMetH Tryd.prog laidL w) (fun _ _ _ hh h => h.of_heap hh) law_own started (by kernel_rfl) Tryd.func8
    (ChangeSpec.witness_shaped (enc := enc) (C := Tryd.checked) (os := os) (X := fun w _ => laidMetH Tryd.prog laidL w) false (World.laidAll Tryd.prog os laidL) #[.int .i64 0, .int .i64 0, .slice none 0 0] 8 (World.laidAll_os _ _ _) (World.shaped_of_ZipB (by kernel_rfl) (by kernel_rfl)) (by kernel_rfl) (by kernel_rfl) (by kernel_rfl) (by rw [MakeChecks.laidMetH_plain _ _ _ (by kernel_rfl)]; exact laidMet_laidAll _ (by kernel_rfl) (by kernel_rfl))) ?_
  intro W base args ds gs before hval0 hW _ hsz hL _
  have hval : ∀ (j : Nat) t v, Tryd.f8.params[j]? = some t → args[j]? = some v → Value.okWide Tryd.prog W .any base t v := hval0
  have hW' := hW
  have hlt : ∀ p ∈ before, p.block < W.heap.size := fun p hp => hW.lt p hp
  obtain ⟨p, q, hA0, hV, rfl, hfz, hnd⟩ := hW
  have hA : DataW.TrodAll enc Tryd.prog W 0 (fun _ => true) true Tryd.f8.params.toList args.toList ds p := hA0
  rw [Tryd.params8] at hA hval
  obtain ⟨v0, vs0, d0, ds0, p0, q0, hargs, rfl, rfl, h0, r0⟩ := trodAll_cons hA
  obtain ⟨v1, vs1, d1, ds1, p1, q1, rfl, rfl, rfl, h1, r1⟩ := trodAll_cons r0
  obtain ⟨v2, vs2, d2, ds2, p2, q2, rfl, rfl, rfl, h2, r2⟩ := trodAll_cons r1
  obtain ⟨rfl, rfl, rfl⟩ := trodAll_nil r2
  obtain rfl : args = #[v0, v1, v2] := by cases args; simp_all
  obtain ⟨rfl, rfl⟩ := trodVars_none hV
  obtain ⟨kd, rfl, rfl, rfl, _⟩ := open_int Tryd.underlying3 (hval 0 3 v0 rfl rfl) h0
  obtain ⟨sz, rfl, rfl, rfl, _⟩ := open_int Tryd.underlying2 (hval 1 2 v1 rfl rfl) h1
  obtain ⟨A, c, ls, rfl, hr⟩ := open_bss_arg (hval 2 32 v2 rfl rfl) h2 (fun n hn => by have := List.all_eq_true.1 hsz n (DataW.weights_mem_each (j := 2) (by rw [Tryd.params8]; rfl) rfl n hn); simpa using this)
  clear hA0 hval0
  refine (walk kd sz A c ls W hr).mono fun e W' ⟨he, hb⟩ => ?_
  subst he
  exact ⟨_, rfl, law_close hW' rfl rfl rfl ps hb⟩

theorem row : Rows.FrameDealtSaid :=
  OpenClaim.holds_of_wide 8 Tryd.f8 rfl rfl rfl rfl rfl rfl rfl ⟨rfl, rfl, rfl, rfl, rfl⟩ rfl rfl rfl rfl rfl (by kernel_rfl) Tryd.func8 (by kernel_rfl)
    (of_decide_eq_true (by kernel_rfl)) (by unfold Func.isWrapper; first | (rw [if_pos (by decide +kernel)]; kernel_rfl) | (rw [if_neg (by decide +kernel)]; exact ⟨rfl, rfl⟩))
    (fun os started H enc _ => lifted os started H enc)
theorem proved : Rows.FrameDealtCardSaid :=
  Claim7.holds_tied_plain_at .later [] [.data, .pinned] true (true, "87d5f9219f07a079969b4c10c39daa5a43c4b1aaca00ea7f38b869a1054ed3de") false
    row (fun _ h => by cases h) (by kernel_rfl) (fun _ h => by cases h) frameDealt_row_tie rfl ⟨rfl, rfl⟩ (by kernel_rfl) rfl
    (fun f fn hf hfn => by
      obtain rfl : f = 8 := Option.some.inj ((show Tryd.prog.funcNamed "mandoline/mandolinelaw13.FrameDealt" = some 8 by kernel_rfl).symm.trans hf) |>.symm
      obtain rfl : fn = Tryd.f8 := (Option.some.inj (Tryd.func8.symm.trans hfn)).symm
      exact ⟨by kernel_rfl, fun j t ht => by
        rw [Tryd.params8] at ht
        have hm : t ∈ [3, 2, 32] := by simpa using Array.mem_of_getElem? ht
        have hall : ([3, 2, 32].all fun u => !Tryd.prog.wantsStandIn u) = true := by kernel_rfl
        exact (show Tryd.prog.wantsStandIn t = false by simpa using List.all_eq_true.1 hall t hm)⟩)
    (by kernel_rfl)
#print axioms proved

end Go.Proofs.YtiigkacmahecaaaDoor.frameDealt
