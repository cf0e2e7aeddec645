/-
  The tags of a list: the program's walk.
-/
import Derived.Test.YtkmheoolekookaaDoorTagP
import Derived.Test.YtkmheoolekookaaDoorTagS
namespace Go.Proofs.YtkmheoolekookaaDoor
open Go.RowKit
set_option linter.unusedVariables false
set_option linter.unusedSimpArgs false

set_option maxRecDepth 100000 in
set_option maxHeartbeats 16000000 in
theorem list_any (s : ByteArray) (w : World) (hs : s.size ≤ 1000000) : Calls Tryd.prog 45 #[.string s] w (ListOk (listB s.data.toList) w) := by
  go_enter Tryd.func45, Tryd.ntmps45
  go_wp2_with fail
  refine (trim_any s _ (by omega)).mono ?_
  rintro e w1 ⟨t, ht, rfl, hb1⟩
  by_cases hst : (trimB s.data.toList == [42]) = true
  · have HX := hide (list_star hst)
    have g1 : (t.toList == [42]) = true := by rw [ByteArray.toList_eq, ht]; exact hst
    clear hst ht
    go_wp2_with fail
    go_ret3
    exact ⟨_, by rw [HX.out]; rfl, by rw [HX.out]; exact OwnL.nil _ _ _, hb1⟩
  · have hst' : (trimB s.data.toList == [42]) = false := by simpa using hst
    have HF := hide (list_fold hst')
    have g1 : (t.toList == [42]) = false := by rw [ByteArray.toList_eq, ht]; exact hst'
    clear hst hst' ht
    go_wp2_with fail
    clear g1
    go_loopw [2, 5, 6, 7] (fun c2 c5 c6 c7 wr => ∃ (k b : Nat) (q : Bool) (ts : List TagL), k ≤ s.size + 1 ∧ b ≤ k ∧ ts.length ≤ k ∧ c7 = .int .i64 (k : Int) ∧ c5 = .int .i64 (b : Int) ∧ c6 = .bool q ∧ OwnL LT w.heap.size wr c2 ts ∧ Hid (LG s.data.toList k b q ts) ∧ Below w.heap.size w wr) (fun c2 c5 c6 c7 _ => s.size + 1 - (intOf c7).toNat)
    case atStart => exact ⟨0, 0, false, [], by omega, by omega, by simp, rfl, rfl, rfl, OwnL.nil _ _ _, lg_zero _, hb1⟩
    case round =>
      obtain ⟨k, b, q, ts, hk, hbk, htk, rfl, rfl, rfl, hown, HL, hbel⟩ := hrel
      by_cases hle : k ≤ s.size
      · by_cases hlt : k < s.size
        · have hl : k < s.data.toList.length := by rw [lsize]; exact hlt
          have hget : s.data.toList[k] = s[k] := rfl
          cases e34 : ((s[k].toNat : Int) == 34)
          · have f34 : (s.data.toList[k] == 34) = false := by rw [beq_eq_false_iff_ne]; exact byte_ne (c := 34) e34
            cases e44 : ((s[k].toNat : Int) == 44)
            · have e44' : ((s[k].toNat : Int) != 44) = true := by simp [bne, e44]
              have f44 : (s.data.toList[k] == 44) = false := by rw [beq_eq_false_iff_ne]; exact byte_ne (c := 44) e44
              have HS := hide (lg_go (q' := q) hbk hl (by rw [f34]; simp) (by rw [f44]; rfl) HL.out)
              clear f34 f44 hget
              go_wp2_with fail
              go_roundw
              case rel => exact ⟨k + 1, b, q, ts, by omega, by omega, by omega, by go_num, rfl, rfl, hown, HS, hbel⟩
              case measure => simp [intOf] <;> omega
            · have e44' : ((s[k].toNat : Int) != 44) = false := by simp [bne, e44]
              have f44 : (s.data.toList[k] == 44) = true := by rw [beq_iff_eq]; exact byte_eq (c := 44) e44
              cases q
              · clear f34 hget
                obtain ⟨HA, HN⟩ := lg_cut hl f44 HL.out
                have hA := hide HA
                have hN := hide HN
                clear HA HN HL
                obtain ⟨u, hu⟩ : ∃ u : ByteArray, u = s.extract b k := ⟨_, rfl⟩
                have hul : u.data.toList = segB s.data.toList b k := by rw [hu, Lib.extract_data]; rfl
                have hus : u.size ≤ 9223372036854775807 := by rw [hu]; simp; omega
                have HU := hide hul
                have HUE := hide hu
                clear hul hu
                go_wp2_with fail
                rw [← HUE.out]
                refine (trim_any u _ hus).mono ?_
                rintro e w2 ⟨p, hp, rfl, hb2⟩
                have hB2 := hbel.trans (hb2.mono hbel.size)
                have O2 := hown.below hb2 (Nat.le_refl _)
                have hps : p.size ≤ 9223372036854775807 := by have := trim_size u.data.toList; rw [← hp, lsize, lsize] at this; omega
                have HP := hide (show p.data.toList = trimB (segB s.data.toList b k) by rw [hp, HU.out])
                clear hp hb2 HUE
                by_cases he : p.data.toList = []
                · have g1 : (p.toList == []) = true := by rw [ByteArray.toList_eq, he]; rfl
                  have g2 : p.toList.isEmpty = true := by rw [ByteArray.toList_eq, he]; rfl
                  have HS := hide (hA.out ts (step_skip (by rw [← HP.out]; exact he)))
                  have HE := hide he
                  clear he hN
                  go_wp2_with fail
                  go_roundw
                  case rel => exact ⟨k + 1, k + 1, false, ts, by omega, by omega, by omega, by go_num, by go_num, rfl, O2, HS, hB2⟩
                  case measure => simp [intOf] <;> omega
                · have g1 : (p.toList == []) = false := by rw [ByteArray.toList_eq, beq_eq_false_iff_ne]; exact he
                  have g2 : p.toList.isEmpty = false := by rw [ByteArray.toList_eq]; cases hl : p.data.toList with | nil => exact absurd hl he | cons _ _ => rfl
                  have hne : trimB (segB s.data.toList b k) ≠ [] := by rw [← HP.out]; exact he
                  have hpb : parseB p.data.toList = parseB (segB s.data.toList b k) := by rw [HP.out, parseB_trim]
                  cases hr : parseB p.data.toList with
                  | none =>
                    have HS := hide (hN.out (step_none hne (by rw [← hpb]; exact hr)))
                    have HPB := hide hpb
                    have HR := hide hr
                    have HX := hide (show listB s.data.toList = ⟨false, 2, []⟩ by rw [HF.out, HS.out]; rfl)
                    clear hpb hr hne he hA hN
                    go_wp2_with fail
                    refine (parse_any p _ hps).mono ?_
                    rintro e w3 ⟨rfl, hb3⟩
                    rw [HR.out]
                    have hB3 := hB2.trans (hb3.mono hB2.size)
                    clear hb3
                    simp only [parseV]
                    go_wp2_with fail
                    go_ret3
                    refine ⟨.slice none 0 0, ?_, by rw [HX.out]; exact OwnL.nil _ _ _, ?_⟩
                    · rw [HX.out]; rfl
                    · exact (hB3.alloc hB3.size _)
                  | some t =>
                    have HS := hide (hA.out _ (step_some hne (by rw [← hpb]; exact hr)))
                    have HPB := hide hpb
                    have HR := hide hr
                    clear hpb hr hne he hA hN
                    go_wp2_with fail
                    refine (parse_any p _ hps).mono ?_
                    rintro e w3 ⟨rfl, hb3⟩
                    rw [HR.out]
                    have hB3 := hB2.trans (hb3.mono hB2.size)
                    have O3 := O2.below hb3 (Nat.le_refl _)
                    clear hb3
                    obtain ⟨tx, hx⟩ : ∃ x : ByteArray, x = ⟨t.1.toArray⟩ := ⟨_, rfl⟩
                    simp only [parseV]
                    rw [← hx]
                    have HTX := hide hx
                    clear hx
                    go_upto_region 16 with fail
                    obtain ⟨w4, hw4⟩ : ∃ W : World, W = w3.alloc (.cells #[.string tx, .bool t.2] 27) := ⟨_, rfl⟩
                    rw [← hw4]
                    have B4 : Blk w4 w3.heap.size 27 #[.string tx, .bool t.2] := by rw [hw4]; exact Blk.new _ _ _
                    have O4 := O3.alloc (.cells #[.string tx, .bool t.2] 27)
                    rw [← hw4] at O4
                    have hB4 : Below w.heap.size w w4 := by rw [hw4]; exact hB3.alloc hB3.size _
                    clear hw4
                    have cB := B4.cell
                    have R5 : RdL LT (w4.alloc (.cells #[.string tx, .bool t.2] 27)) (w4.heap.size + 1) (.slice (some ⟨w4.heap.size, 0, none⟩) 1 1) [t] := by
                      have := RdL.one_ (L := LT) (x := t) (Blk.new w4 27 #[.string tx, .bool t.2]) (by rw [HTX.out]; rfl)
                      simpa using this
                    have z4 := hB4.size
                    go_wp2_with (at_builtin; refine wpList_appL LT w (by rfl) (.tmp 61) (.tmp 63) _ _ (by rfl) rfl rfl w.heap.size _ ts (by rfl) (O4.alloc _) (hB4.alloc hB4.size _) (by simp; omega) _ [t] _ (by rfl) R5 (by decide) (by simp; omega) ?_; intro v6 w6 O6 hB6 _ _)
                    go_roundw
                    case rel => exact ⟨k + 1, k + 1, false, ts ++ [t], by omega, by omega, by simp; omega, by go_num, by go_num, rfl, O6, HS, hB6⟩
                    case measure => simp [intOf] <;> omega
              · have HS := hide (lg_go (q' := true) hbk hl (by rw [f34]; rfl) (by simp) HL.out)
                clear f34 f44 hget
                go_wp2_with fail
                go_roundw
                case rel => exact ⟨k + 1, b, true, ts, by omega, by omega, by omega, by go_num, rfl, rfl, hown, HS, hbel⟩
                case measure => simp [intOf] <;> omega
          · have f34 : (s.data.toList[k] == 34) = true := by rw [beq_iff_eq]; exact byte_eq (c := 34) e34
            have e44' : ((s[k].toNat : Int) != 44) = true := by rw [beq_iff_eq] at e34; rw [e34]; rfl
            have HS := hide (lg_go (q' := !q) hbk hl (by rw [f34]; simp) (by rw [beq_iff_eq] at f34; rw [f34]; rfl) HL.out)
            clear f34 hget
            go_wp2_with fail
            go_roundw
            case rel => exact ⟨k + 1, b, !q, ts, by omega, by omega, by omega, by go_num, rfl, rfl, hown, HS, hbel⟩
            case measure => simp [intOf] <;> omega
        · obtain rfl : k = s.size := by omega
          obtain ⟨HA, HN⟩ := lg_end (by rw [lsize]) HL.out
          have hA := hide HA
          have hN := hide HN
          clear HA HN HL
          obtain ⟨u, hu⟩ : ∃ u : ByteArray, u = s.extract b s.size := ⟨_, rfl⟩
          have hul : u.data.toList = segB s.data.toList b s.size := by rw [hu, Lib.extract_data]; rfl
          have hus : u.size ≤ 9223372036854775807 := by rw [hu]; simp; omega
          have HU := hide hul
          have HUE := hide hu
          clear hul hu
          go_wp2_with fail
          rw [← HUE.out]
          refine (trim_any u _ hus).mono ?_
          rintro e w2 ⟨p, hp, rfl, hb2⟩
          have hB2 := hbel.trans (hb2.mono hbel.size)
          have O2 := hown.below hb2 (Nat.le_refl _)
          have hps : p.size ≤ 9223372036854775807 := by have := trim_size u.data.toList; rw [← hp, lsize, lsize] at this; omega
          have HP := hide (show p.data.toList = trimB (segB s.data.toList b s.size) by rw [hp, HU.out])
          clear hp hb2 HUE
          by_cases he : p.data.toList = []
          · have g1 : (p.toList == []) = true := by rw [ByteArray.toList_eq, he]; rfl
            have g2 : p.toList.isEmpty = true := by rw [ByteArray.toList_eq, he]; rfl
            have HS := hide (hA.out ts (step_skip (by rw [← HP.out]; exact he)))
            have HE := hide he
            clear he hN
            go_wp2_with fail
            go_roundw
            case rel => exact ⟨s.size + 1, s.size + 1, q, ts, by omega, by omega, by omega, by go_num, by go_num, rfl, O2, HS, hB2⟩
            case measure => simp [intOf] <;> omega
          · have g1 : (p.toList == []) = false := by rw [ByteArray.toList_eq, beq_eq_false_iff_ne]; exact he
            have g2 : p.toList.isEmpty = false := by rw [ByteArray.toList_eq]; cases hl : p.data.toList with | nil => exact absurd hl he | cons _ _ => rfl
            have hne : trimB (segB s.data.toList b s.size) ≠ [] := by rw [← HP.out]; exact he
            have hpb : parseB p.data.toList = parseB (segB s.data.toList b s.size) := by rw [HP.out, parseB_trim]
            cases hr : parseB p.data.toList with
            | none =>
              have HS := hide (hN.out (step_none hne (by rw [← hpb]; exact hr)))
              have HPB := hide hpb
              have HR := hide hr
              have HX := hide (show listB s.data.toList = ⟨false, 2, []⟩ by rw [HF.out, HS.out]; rfl)
              clear hpb hr hne he hA hN
              go_wp2_with fail
              refine (parse_any p _ hps).mono ?_
              rintro e w3 ⟨rfl, hb3⟩
              rw [HR.out]
              have hB3 := hB2.trans (hb3.mono hB2.size)
              clear hb3
              simp only [parseV]
              go_wp2_with fail
              go_ret3
              refine ⟨.slice none 0 0, ?_, by rw [HX.out]; exact OwnL.nil _ _ _, ?_⟩
              · rw [HX.out]; rfl
              · exact (hB3.alloc hB3.size _)
            | some t =>
              have HS := hide (hA.out _ (step_some hne (by rw [← hpb]; exact hr)))
              have HPB := hide hpb
              have HR := hide hr
              clear hpb hr hne he hA hN
              go_wp2_with fail
              refine (parse_any p _ hps).mono ?_
              rintro e w3 ⟨rfl, hb3⟩
              rw [HR.out]
              have hB3 := hB2.trans (hb3.mono hB2.size)
              have O3 := O2.below hb3 (Nat.le_refl _)
              clear hb3
              obtain ⟨tx, hx⟩ : ∃ x : ByteArray, x = ⟨t.1.toArray⟩ := ⟨_, rfl⟩
              simp only [parseV]
              rw [← hx]
              have HTX := hide hx
              clear hx
              go_upto_region 16 with fail
              obtain ⟨w4, hw4⟩ : ∃ W : World, W = w3.alloc (.cells #[.string tx, .bool t.2] 27) := ⟨_, rfl⟩
              rw [← hw4]
              have B4 : Blk w4 w3.heap.size 27 #[.string tx, .bool t.2] := by rw [hw4]; exact Blk.new _ _ _
              have O4 := O3.alloc (.cells #[.string tx, .bool t.2] 27)
              rw [← hw4] at O4
              have hB4 : Below w.heap.size w w4 := by rw [hw4]; exact hB3.alloc hB3.size _
              clear hw4
              have cB := B4.cell
              have R5 : RdL LT (w4.alloc (.cells #[.string tx, .bool t.2] 27)) (w4.heap.size + 1) (.slice (some ⟨w4.heap.size, 0, none⟩) 1 1) [t] := by
                have := RdL.one_ (L := LT) (x := t) (Blk.new w4 27 #[.string tx, .bool t.2]) (by rw [HTX.out]; rfl)
                simpa using this
              have z4 := hB4.size
              go_wp2_with (at_builtin; refine wpList_appL LT w (by rfl) (.tmp 61) (.tmp 63) _ _ (by rfl) rfl rfl w.heap.size _ ts (by rfl) (O4.alloc _) (hB4.alloc hB4.size _) (by simp; omega) _ [t] _ (by rfl) R5 (by decide) (by simp; omega) ?_; intro v6 w6 O6 hB6 _ _)
              go_roundw
              case rel => exact ⟨s.size + 1, s.size + 1, q, ts ++ [t], by omega, by omega, by simp; omega, by go_num, by go_num, rfl, O6, HS, hB6⟩
              case measure => simp [intOf] <;> omega
      · obtain rfl : k = s.size + 1 := by omega
        have HS := hide (HF.out.trans (congrArg listR (HL.out.2 (by rw [lsize]; omega))))
        obtain ⟨A, c, hv, _⟩ := hown.rd.form
        subst hv
        by_cases h0 : ts.length = 0
        · have hz : ts = [] := List.eq_nil_of_length_eq_zero h0
          have HX := hide (show listB s.data.toList = ⟨false, 2, []⟩ by rw [HS.out, hz]; rfl)
          have g0 : ((ts.length : Int) == 0) = true := by simp [h0]
          have HZ := hide hz
          clear h0 hz
          go_wp2_with fail
          go_ret3
          exact ⟨_, by rw [HX.out]; rfl, by rw [HX.out]; exact OwnL.nil _ _ _, hbel⟩
        · have g0 : ((ts.length : Int) == 0) = false := by rw [beq_eq_false_iff_ne]; omega
          by_cases h64 : 64 < ts.length
          · have HX := hide (HS.out.trans (listR_many h64))
            have g1 : decide ((ts.length : Int) > 64) = true := decide_eq_true (by omega)
            clear h0
            go_wp2_with fail
            go_ret3
            exact ⟨_, by rw [HX.out]; rfl, by rw [HX.out]; exact OwnL.nil _ _ _, hbel⟩
          · have HX := hide (HS.out.trans (listR_some (by omega) h64))
            have g1 : decide ((ts.length : Int) > 64) = false := decide_eq_false (by omega)
            clear h0
            go_wp2_with fail
            go_ret3
            exact ⟨_, by rw [HX.out]; rfl, by rw [HX.out]; exact hown, hbel⟩

end Go.Proofs.YtkmheoolekookaaDoor
