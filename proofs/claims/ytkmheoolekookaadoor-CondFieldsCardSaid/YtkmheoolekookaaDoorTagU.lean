/-
  The tags of a list: the reference's walk.
-/
import Derived.Test.YtkmheoolekookaaDoorTagR
import Derived.Test.YtkmheoolekookaaDoorTagS
namespace Go.Proofs.YtkmheoolekookaaDoor
open Go.RowKit
set_option linter.unusedVariables false
set_option linter.unusedSimpArgs false

theorem cat_byte {s u : ByteArray} {k : Nat} (h : k < s.size) : (u ++ s.extract k (k + 1)).data.toList = u.data.toList ++ [s.data.toList[k]'(by rw [lsize]; exact h)] := by
  rw [ByteArray.data_append, Array.toList_append, Lib.extract_data]
  congr 1
  rw [show k + 1 - k = 1 by omega, List.drop_eq_getElem_cons (by rw [lsize]; exact h)]
  rfl

set_option maxRecDepth 100000 in
set_option maxHeartbeats 16000000 in
theorem rlist_any (s : ByteArray) (w : World) (hs : s.size ≤ 1000000) : Calls Tryd.prog 52 #[.string s] w (ListOk (listB s.data.toList) w) := by
  go_enter Tryd.func52, Tryd.ntmps52
  go_wp2_with fail
  refine (rtrim_any s _ (by omega)).mono ?_
  rintro e w1 ⟨t, ht, rfl, hb1⟩
  by_cases hst : (trimB s.data.toList == [42]) = true
  · have HX := hide (list_star hst)
    have g1 : (t.toList == [42]) = true := by rw [ByteArray.toList_eq, ht]; exact hst
    clear hst ht
    go_wp2_with fail
    go_ret3
    exact ⟨_, by rw [HX.out]; rfl, by rw [HX.out]; exact OwnL.nil _ _ _, hb1⟩
  · have hst' : (trimB s.data.toList == [42]) = false := by simpa using hst
    have HF := hide (list_fold hst')
    have g1 : (t.toList == [42]) = false := by rw [ByteArray.toList_eq, ht]; exact hst'
    clear hst hst' ht
    go_wp2_with fail
    clear g1
    have O1 := OwnL.made LS w1 #[] 0 w.heap.size hb1.size (by decide) rfl
    have hB1 : Below w.heap.size w (w1.alloc (.cells #[] 9)) := hb1.alloc hb1.size _
    go_loopw [5, 6, 7, 8] (fun c5 c6 c7 c8 wr => ∃ (k : Nat) (q : Bool) (u : ByteArray) (ps : List Bs), k ≤ s.size ∧ u.size ≤ k ∧ ps.length ≤ k ∧ c8 = .int .i64 (k : Int) ∧ c7 = .bool q ∧ c6 = .string u ∧ OwnL LS w.heap.size wr c5 ps ∧ Hid (PG s.data.toList k q u.data.toList ps) ∧ Below w.heap.size w wr) (fun c5 c6 c7 c8 _ => s.size - (intOf c8).toNat)
    case atStart => exact ⟨0, false, ⟨#[]⟩, [], by omega, Nat.zero_le _, by simp, rfl, rfl, rfl, O1, rfl, hB1⟩
    case round =>
      clear O1 hB1
      obtain ⟨k, q, u, ps, hk, huk, hpk, rfl, rfl, rfl, hown, HL, hbel⟩ := hrel
      have z1 := hbel.size
      by_cases hlt : k < s.size
      · have hl : k < s.data.toList.length := by rw [lsize]; exact hlt
        cases e34 : ((s[k].toNat : Int) == 34)
        · have f34 : (s.data.toList[k] == 34) = false := by rw [beq_eq_false_iff_ne]; exact byte_ne (c := 34) e34
          cases e44 : ((s[k].toNat : Int) == 44)
          · have f44 : (s.data.toList[k] == 44) = false := by rw [beq_eq_false_iff_ne]; exact byte_ne (c := 44) e44
            have HS := hide (pg_go (q' := q) hl (by rw [f34]; simp) (by rw [f44]; rfl) HL.out)
            obtain ⟨u2, hu2⟩ : ∃ x : ByteArray, x = u ++ s.extract k (k + 1) := ⟨_, rfl⟩
            replace HS := hide (show PG s.data.toList (k + 1) (q) u2.data.toList ps by rw [hu2, cat_byte hlt]; exact HS.out)
            have hu2s : u2.size ≤ k + 1 := by rw [hu2]; simp; omega
            have HU2 := hide hu2
            clear hu2
            clear f34 f44
            go_wp2_with fail
            rw [← HU2.out]
            go_roundw
            case rel => exact ⟨k + 1, q, u2, ps, by omega, by omega, by omega, by go_num, rfl, rfl, hown, HS, hbel⟩
            case measure => simp [intOf] <;> omega
          · have f44 : (s.data.toList[k] == 44) = true := by rw [beq_iff_eq]; exact byte_eq (c := 44) e44
            cases q
            · have HS := hide (pg_cut hl f44 HL.out)
              have R5 : RdL LS (wr.alloc (.cells #[.string u] 9)) (wr.heap.size + 1) (.slice (some ⟨wr.heap.size, 0, none⟩) 1 1) [u.data.toList] := by
                have := RdL.one_ (L := LS) (x := u.data.toList) (Blk.new wr 9 #[.string u]) (by simp [LS])
                simpa using this
              clear f34 f44
              go_wp2_with (at_builtin; refine wpList_appL LS w (by rfl) (.tmp 37) (.tmp 39) _ _ (by rfl) rfl rfl w.heap.size _ ps (by rfl) (hown.alloc _) (hbel.alloc hbel.size _) (by simp; omega) _ [u.data.toList] _ (by rfl) R5 (by decide) (by simp; omega) ?_; intro v6 w6 O6 hB6 _ _)
              go_roundw
              case rel => exact ⟨k + 1, false, ⟨#[]⟩, ps ++ [u.data.toList], by omega, Nat.zero_le _, by simp; omega, by go_num, rfl, rfl, O6, HS, hB6⟩
              case measure => simp [intOf] <;> omega
            · have HS := hide (pg_go (q' := true) hl (by rw [f34]; rfl) (by simp) HL.out)
              obtain ⟨u2, hu2⟩ : ∃ x : ByteArray, x = u ++ s.extract k (k + 1) := ⟨_, rfl⟩
              replace HS := hide (show PG s.data.toList (k + 1) (true) u2.data.toList ps by rw [hu2, cat_byte hlt]; exact HS.out)
              have hu2s : u2.size ≤ k + 1 := by rw [hu2]; simp; omega
              have HU2 := hide hu2
              clear hu2
              clear f34 f44
              go_wp2_with fail
              rw [← HU2.out]
              go_roundw
              case rel => exact ⟨k + 1, true, u2, ps, by omega, by omega, by omega, by go_num, rfl, rfl, hown, HS, hbel⟩
              case measure => simp [intOf] <;> omega
        · have f34 : (s.data.toList[k] == 34) = true := by rw [beq_iff_eq]; exact byte_eq (c := 34) e34
          have e44 : ((s[k].toNat : Int) == 44) = false := by rw [beq_iff_eq] at e34; rw [e34]; rfl
          have HS := hide (pg_go (q' := !q) hl (by rw [f34]; simp) (by rw [beq_iff_eq] at f34; rw [f34]; rfl) HL.out)
          obtain ⟨u2, hu2⟩ : ∃ x : ByteArray, x = u ++ s.extract k (k + 1) := ⟨_, rfl⟩
          replace HS := hide (show PG s.data.toList (k + 1) (!q) u2.data.toList ps by rw [hu2, cat_byte hlt]; exact HS.out)
          have hu2s : u2.size ≤ k + 1 := by rw [hu2]; simp; omega
          have HU2 := hide hu2
          clear hu2
          clear f34
          go_wp2_with fail
          rw [← HU2.out]
          go_roundw
          case rel => exact ⟨k + 1, !q, u2, ps, by omega, by omega, by omega, by go_num, rfl, rfl, hown, HS, hbel⟩
          case measure => simp [intOf] <;> omega
      · have hP := pg_end (by rw [lsize]; omega) HL.out
        have R5 : RdL LS (wr.alloc (.cells #[.string u] 9)) (wr.heap.size + 1) (.slice (some ⟨wr.heap.size, 0, none⟩) 1 1) [u.data.toList] := by
          have := RdL.one_ (L := LS) (x := u.data.toList) (Blk.new wr 9 #[.string u]) (by simp [LS])
          simpa using this
        have HPP := hide hP
        clear hP
        go_wp2_with (at_builtin; refine wpList_appL LS w (by rfl) (.tmp 48) (.tmp 50) _ _ (by rfl) rfl rfl w.heap.size _ ps (by rfl) (hown.alloc _) (hbel.alloc hbel.size _) (by simp; omega) _ [u.data.toList] _ (by rfl) R5 (by decide) (by simp; omega) ?_; intro v6 w6 O6 hB6 _ _)
        obtain ⟨P, hP⟩ : ∃ P, P = splitQ false [] s.data.toList := ⟨_, rfl⟩
        rw [HPP.out, ← hP] at O6
        have hsl := split_len s.data.toList false []
        rw [← hP, lsize] at hsl
        have HF0 := hide (show FG P s.data.toList 0 [] by unfold FG foldS; rw [List.drop_zero, hP])
        have HPL := hide hsl.1
        have hPl := hsl.2
        clear hsl hP HPP HL R5 hown hbel
        obtain ⟨A, c, hv, _⟩ := O6.rd.form
        subst hv
        have O7 := OwnL.made LT w6 #[] 0 w.heap.size hB6.size (by decide) rfl
        obtain ⟨w7, hw7⟩ : ∃ W : World, W = w6.alloc (.cells #[] 27) := ⟨_, rfl⟩
        have O6' := O6.alloc (.cells #[] 27)
        have hB7 : Below w.heap.size w w7 := by rw [hw7]; exact hB6.alloc hB6.size _
        have O7' : OwnL LT w.heap.size w7 (.slice (some ⟨w6.heap.size, 0, none⟩) 0 0) [] := by rw [hw7]; exact O7
        rw [← hw7] at O6'
        clear O6 O7
        have HW7 := hide hw7
        clear hw7
        go_loopw [9, 10] (fun c9 c10 wr => ∃ (j : Nat) (ts : List TagL), j ≤ P.length ∧ ts.length ≤ j ∧ c10 = .int .i64 (j : Int) ∧ OwnL LT w.heap.size wr c9 ts ∧ OwnL LS w.heap.size wr (.slice A P.length c) P ∧ Hid (FG P s.data.toList j ts) ∧ Below w.heap.size w wr) (fun c9 c10 _ => P.length - (intOf c10).toNat)
        case atStart => first | exact ⟨0, [], Nat.zero_le _, by simp, rfl, O7', O6', HF0, hB7⟩ | (rw [← HW7.out]; exact ⟨0, [], Nat.zero_le _, by simp, rfl, O7', O6', HF0, hB7⟩)
        case round =>
          clear O7' O6' HW7 hB7 HF0 hB6
          obtain ⟨j, ts, hj, htj, rfl, hown, hps, HL, hbel⟩ := hrel
          by_cases hlt : j < P.length
          · obtain ⟨b0, off, hA, hb0, hcell⟩ := hps.rd.at_ j hlt
            subst hA
            have hcl : wr.cell? ⟨b0, off + j, none⟩ = some (.string ⟨P[j].toArray⟩) := by simpa [LS] using hcell 0 _ rfl
            obtain ⟨x, hx⟩ : ∃ x : ByteArray, x = ⟨P[j].toArray⟩ := ⟨_, rfl⟩
            rw [← hx] at hcl
            have hxl : x.data.toList = P[j] := by rw [hx]
            have hxs : x.size ≤ 9223372036854775807 := by
              have := HPL.out P[j] (List.getElem_mem hlt)
              rw [← hxl, lsize] at this
              simp at this; omega
            have HXL := hide hxl
            clear hx hxl hcell
            obtain ⟨HA, HN⟩ := fg_step hlt HL.out
            rw [← HXL.out] at HA HN
            have hA := hide HA
            have hN := hide HN
            clear HA HN HL
            go_wp2_with fail
            refine (rtrim_at x _ hxs).mono ?_
            rintro e w' ⟨p, hp, rfl, rfl⟩
            by_cases he : trimB x.data.toList = []
            · have g1 : (p.toList == []) = true := by rw [ByteArray.toList_eq, hp, he]; rfl
              have g2 : p.toList.isEmpty = true := by rw [ByteArray.toList_eq, hp, he]; rfl
              have HS := hide (hA.out ts (step_skip he))
              have HE := hide he
              clear he hN hp
              go_wp2_with fail
              go_roundw
              case rel => exact ⟨j + 1, ts, by omega, by omega, by go_num, hown, hps, HS, hbel⟩
              case measure => simp [intOf] <;> omega
            · have g1 : (p.toList == []) = false := by rw [ByteArray.toList_eq, hp, beq_eq_false_iff_ne]; exact he
              have g2 : p.toList.isEmpty = false := by rw [ByteArray.toList_eq, hp]; cases hl : trimB x.data.toList with | nil => exact absurd hl he | cons _ _ => rfl
              clear hp
              cases hr : parseB x.data.toList with
              | none =>
                have HS := hide (hN.out (step_none he hr))
                have HR := hide hr
                have HX := hide (show listB s.data.toList = ⟨false, 2, []⟩ by rw [HF.out, HS.out]; rfl)
                clear hr he hA hN
                go_wp2_with fail
                refine (rparse_any x _ hxs).mono ?_
                rintro e w3 ⟨rfl, hb3⟩
                rw [HR.out]
                have hB3 := hbel.trans (hb3.mono hbel.size)
                clear hb3
                simp only [parseV]
                go_wp2_with fail
                go_ret3
                refine ⟨.slice none 0 0, ?_, by rw [HX.out]; exact OwnL.nil _ _ _, ?_⟩
                · rw [HX.out]; rfl
                · exact (hB3.alloc hB3.size _)
              | some t =>
                have HS := hide (hA.out _ (step_some he hr))
                have HR := hide hr
                clear hr he hA hN
                go_wp2_with fail
                refine (rparse_any x _ hxs).mono ?_
                rintro e w3 ⟨rfl, hb3⟩
                rw [HR.out]
                have hB3 := hbel.trans (hb3.mono hbel.size)
                have O3 := hown.below hb3 (Nat.le_refl _)
                have S3 := hps.below hb3 (Nat.le_refl _)
                clear hb3 hcl
                obtain ⟨tx, hx⟩ : ∃ x : ByteArray, x = ⟨t.1.toArray⟩ := ⟨_, rfl⟩
                simp only [parseV]
                rw [← hx]
                have HTX := hide hx
                clear hx
                go_upto_region 24 with fail
                obtain ⟨w4, hw4⟩ : ∃ W : World, W = w3.alloc (.cells #[.string tx, .bool t.2] 27) := ⟨_, rfl⟩
                rw [← hw4]
                have B4 : Blk w4 w3.heap.size 27 #[.string tx, .bool t.2] := by rw [hw4]; exact Blk.new _ _ _
                have O4 := O3.alloc (.cells #[.string tx, .bool t.2] 27)
                have S4 := S3.alloc (.cells #[.string tx, .bool t.2] 27)
                rw [← hw4] at O4 S4
                have hB4 : Below w.heap.size w w4 := by rw [hw4]; exact hB3.alloc hB3.size _
                clear hw4
                have cB := B4.cell
                have R5 : RdL LT (w4.alloc (.cells #[.string tx, .bool t.2] 27)) (w4.heap.size + 1) (.slice (some ⟨w4.heap.size, 0, none⟩) 1 1) [t] := by
                  have := RdL.one_ (L := LT) (x := t) (Blk.new w4 27 #[.string tx, .bool t.2]) (by rw [HTX.out]; rfl)
                  simpa using this
                have z4 := hB4.size
                have S5 := S4.alloc (.cells #[.string tx, .bool t.2] 27)
                have O5 := O4.alloc (.cells #[.string tx, .bool t.2] 27)
                go_wp2_with (at_builtin; refine wpList_appL LT w (by rfl) (.tmp 75) (.tmp 77) _ _ (by rfl) rfl rfl w.heap.size _ ts (by rfl) (O5) (hB4.alloc hB4.size _) (by simp; omega) _ [t] _ (by rfl) R5 (by decide) (by simp; omega) ?_; intro v6 w6 O6 hB6 hg6 _)
                have S6 := S5.kept hg6 (S5.apart O5 (by decide))
                go_roundw
                case rel => exact ⟨j + 1, ts ++ [t], by omega, by simp; omega, by go_num, O6, S6, HS, hB6⟩
                case measure => simp [intOf] <;> omega
          · have HS := hide (HF.out.trans (congrArg listR (fg_end (by omega) HL.out)))
            obtain ⟨A, c, hv, _⟩ := hown.rd.form
            subst hv
            by_cases h0 : ts.length = 0
            · have hz : ts = [] := List.eq_nil_of_length_eq_zero h0
              have HX := hide (show listB s.data.toList = ⟨false, 2, []⟩ by rw [HS.out, hz]; rfl)
              have g0 : ((ts.length : Int) == 0) = true := by simp [h0]
              have HZ := hide hz
              clear h0 hz
              go_wp2_with fail
              go_ret3
              exact ⟨_, by rw [HX.out]; rfl, by rw [HX.out]; exact OwnL.nil _ _ _, hbel⟩
            · have g0 : ((ts.length : Int) == 0) = false := by rw [beq_eq_false_iff_ne]; omega
              by_cases h64 : 64 < ts.length
              · have HX := hide (HS.out.trans (listR_many h64))
                have g1 : decide ((ts.length : Int) > 64) = true := decide_eq_true (by omega)
                clear h0
                go_wp2_with fail
                go_ret3
                exact ⟨_, by rw [HX.out]; rfl, by rw [HX.out]; exact OwnL.nil _ _ _, hbel⟩
              · have HX := hide (HS.out.trans (listR_some (by omega) h64))
                have g1 : decide ((ts.length : Int) > 64) = false := decide_eq_false (by omega)
                clear h0
                go_wp2_with fail
                go_ret3
                exact ⟨_, by rw [HX.out]; rfl, by rw [HX.out]; exact hown, hbel⟩

end Go.Proofs.YtkmheoolekookaaDoor
