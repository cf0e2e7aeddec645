/-
  Merged: DateI, DateJ.
-/
import Derived.Test.YtmelcndflllgmaaGreatDoorGrD
import Derived.Deep.RegionHeld3
import Derived.Deep.DeepCutAuto
namespace Go.Proofs.YtmelcndflllgmaaGreatDoor
open Go.RowKit DateM Go.Lib

theorem slice_at (s : ByteArray) (i j : Nat) (hi : i ≤ j) (hj : j ≤ s.size) (X : World) :
    (Instr.slice 9 (.string s) (some (.int .i64 (i : Int))) (some (.int .i64 (j : Int))) none).run Tryz.prog X = .ok (.string (s.extract i j)) X := by
  rw [run_slice_string_if X _ _ _ _ _ _ Tryz.underlying9, if_pos (by omega), if_pos (by omega)]; rfl
theorem extract_sz (s : ByteArray) (i j : Nat) : (s.extract i j).size ≤ j - i := by rw [ByteArray.size_extract]; omega
theorem extract_size (s : ByteArray) (i j : Nat) (hj : j ≤ s.size) : (s.extract i j).size = j - i := by rw [ByteArray.size_extract]; omega

set_option maxHeartbeats 400000 in
theorem parse_short (s : ByteArray) (w : World) (_hs : s.size ≤ 9223372036854775807) (h : s.size ≠ 29) :
    Calls Tryz.prog 22 #[.string s] w (ParseOk s w) := by
  have h1 : ((s.size : Int) != 29) = true := by simp; omega
  go_enter Tryz.func22, Tryz.ntmps22
  go_wp2
  go_ret2
  exact .inr ⟨fun t ht => h (parse_says ht).1, rfl, Below.refl _ _⟩

set_option maxRecDepth 100000 in
set_option maxHeartbeats 4000000 in
theorem parse_walk (s : ByteArray) (w : World) (h : s.size = 29) :
    Calls Tryz.prog 22 #[.string s] w (ParseOk s w) := by
  have f1 : ∀ X : World, (Instr.slice 9 (.string s) (some (.int .i64 12)) (some (.int .i64 16)) none).run Tryz.prog X = .ok (.string (s.extract 12 16)) X := fun X => slice_at s 12 16 (by omega) (by omega) X
  have f2 : ∀ X : World, (Instr.slice 9 (.string s) (some (.int .i64 5)) (some (.int .i64 7)) none).run Tryz.prog X = .ok (.string (s.extract 5 7)) X := fun X => slice_at s 5 7 (by omega) (by omega) X
  have f3 : ∀ X : World, (Instr.slice 9 (.string s) (some (.int .i64 8)) (some (.int .i64 11)) none).run Tryz.prog X = .ok (.string (s.extract 8 11)) X := fun X => slice_at s 8 11 (by omega) (by omega) X
  have f4 : ∀ X : World, (Instr.slice 9 (.string s) (some (.int .i64 17)) (some (.int .i64 19)) none).run Tryz.prog X = .ok (.string (s.extract 17 19)) X := fun X => slice_at s 17 19 (by omega) (by omega) X
  have f5 : ∀ X : World, (Instr.slice 9 (.string s) (some (.int .i64 20)) (some (.int .i64 22)) none).run Tryz.prog X = .ok (.string (s.extract 20 22)) X := fun X => slice_at s 20 22 (by omega) (by omega) X
  have f6 : ∀ X : World, (Instr.slice 9 (.string s) (some (.int .i64 23)) (some (.int .i64 25)) none).run Tryz.prog X = .ok (.string (s.extract 23 25)) X := fun X => slice_at s 23 25 (by omega) (by omega) X
  have h1 : ((s.size : Int) != 29) = false := by simp; omega
  have HZ := hide h
  clear h
  go_enter Tryz.func22, Tryz.ntmps22
  go_upto_region 3 with fail
  go_cut [4] (fun s4 wx => ∃ g : Nat, s4 = .pointer (some ⟨g, 0, none⟩) ∧ Blk wx g 84 #[.int .i64 (pY s), .int .i64 0, .int .i64 (pD s), .int .i64 0] ∧ w.heap.size ≤ g ∧ Below w.heap.size w wx)
  case first =>
    go_region_held3 (fun _ => True) (trivial) (first | (go_at_call 60; refine (number_any _ _ ?_).mono ?_; exact Nat.le_trans (extract_sz _ _ _) (by decide); rintro e w' ⟨rfl, rfl⟩))
    all_goals go_wp2_with fail
    all_goals go_meet
    all_goals exact ⟨_, rfl, (Blk.new w _ _).drew, Nat.le_refl _, ((Below.refl _ _).alloc (Nat.le_refl _) _).drew⟩
  case rest =>
    obtain ⟨g, rfl, hB, hg, hb⟩ := hcut
    go_wp2_with fail
    go_loopw [5] (fun i wr => ∃ m : Int, 1 ≤ m ∧ m ≤ 13 ∧ i = .int .i64 m ∧ Blk wr g 84 #[.int .i64 (pY s), .int .i64 (monTo (s.extract 8 11) (m - 1).toNat), .int .i64 (pD s), .int .i64 0] ∧ Below w.heap.size w wr) (fun i _ => (13 - intOf i).toNat)
    case atStart => exact ⟨1, by omega, by omega, rfl, hB, hb⟩
    case round =>
      obtain ⟨m, hm1, hm2, rfl, hB, hb⟩ := hrel
      by_cases hlt : m ≤ 12
      · have f7 : ∀ X : World, (Instr.slice 9 (.string yearNames) (some (.int .i64 (3 * m - 3))) (some (.int .i64 (3 * m))) none).run Tryz.prog X = .ok (.string (yearName m)) X := fun X => by
          have h : yearNames.size = 36 := rfl
          rw [run_slice_string_if X _ _ _ _ _ _ Tryz.underlying9, if_pos (by omega), if_pos (by omega)]; rfl
        unfold yearNames at f7
        have c1 := hB.cell 1
        have z1 := hB.frozen 1
        simp only [List.getElem?_toArray, List.getElem?_cons_succ, List.getElem?_cons_zero] at c1
        have hM := hide (show monTo (s.extract 8 11) (m + 1 - 1).toNat = if s.extract 8 11 = yearName m then m else monTo (s.extract 8 11) (m - 1).toNat by
          obtain ⟨k, hk⟩ : ∃ k : Nat, m = (k : Int) + 1 := ⟨(m - 1).toNat, by omega⟩
          subst hk
          have e1 : ((k : Int) + 1 + 1 - 1).toNat = k + 1 := by omega
          have e2 : ((k : Int) + 1 - 1).toNat = k := by omega
          rw [e1, e2, monTo])
        by_cases he : s.extract 8 11 = yearName m
        · have hE := hide he
          have he' := seq_true he
          clear he
          go_wp2_with fail
          go_quiet (fail)
          go_wp2
          go_roundw
          case rel => exact ⟨m + 1, by omega, by omega, rfl, by rw [hM.out, if_pos hE.out]; exact (hB.drewN _).set_ 1 _, (below_drewN hb _).setCell hg _⟩
          case measure => simp [intOf]; omega
        · have hE := hide he
          have he' := seq_false he
          clear he
          go_wp2_with fail
          go_quiet (fail)
          go_wp2
          go_roundw
          case rel => exact ⟨m + 1, by omega, by omega, rfl, by rw [hM.out, if_neg hE.out]; exact hB.drewN _, below_drewN hb _⟩
          case measure => simp [intOf]; omega
      · obtain rfl : m = 13 := by omega
        clear f1 f2 f3
        have b4 := numF_bd (List.take 2 (List.drop 17 s.data.toList)) (by simp; omega)
        have b5 := numF_bd (List.take 2 (List.drop 20 s.data.toList)) (by simp; omega)
        have b6 := numF_bd (List.take 2 (List.drop 23 s.data.toList)) (by simp; omega)
        have c0 := hB.cell 0
        have c1 := hB.cell 1
        have c2 := hB.cell 2
        have c3 := hB.cell 3
        simp only [List.getElem?_toArray, List.getElem?_cons_succ, List.getElem?_cons_zero] at c0 c1 c2 c3
        have e12 : ((13 : Int) - 1).toNat = 12 := rfl
        rw [e12] at c1
        clear e12
        go_wp2_with fail
        go_quiet ((go_at_call 60; exact quiet_left (number_any _ _ (by simp; omega))))
        go_wp2_with fail
        by_cases hd : dayB (pY s) (monTo (s.extract 8 11) 12) (pD s) (pS s) = true
        · have hD := hide hd
          have hbd := tickN_bd hd
          have hd2 : 1970 ≤ pY s ∧ pY s ≤ 9999 ∧ 1 ≤ monTo (s.extract 8 11) 12 ∧ monTo (s.extract 8 11) 12 ≤ 12 ∧ 1 ≤ pD s ∧ pD s ≤ dim (pY s) (monTo (s.extract 8 11) 12) ∧ 0 ≤ pS s ∧ pS s < 86400 := by
            simpa only [dayB, decide_eq_true_eq] using hd
          obtain ⟨q1, q2, q3, q4, q5, q6, q7, q8⟩ := hd2
          clear hd
          refine (tick_yes (pY s) _ (pD s) 0 (pS s) _ q1 q2 q3 q4 q5 q6 q7 q8).mono ?_
          rintro e w2 ⟨rfl, hb2⟩
          clear q1 q2 q3 q4 q5 q6 q7 q8 c0 c1 c2 c3
          obtain ⟨T, hT⟩ : ∃ T, T = tickN (pY s) (monTo (s.extract 8 11) 12) (pD s) (pS s) := ⟨_, rfl⟩
          rw [← hT] at hbd ⊢
          have HT := hide hT
          clear hT
          go_wp2_with fail
          refine (text_yes T _ hbd.1 hbd.2).mono ?_
          rintro e w3 ⟨y', m', d', k', s', ht, rfl, hb3⟩
          have HI := hide (show IsText T ⟨(textL y' m' d' k' s').toArray⟩ from ⟨y', m', d', k', s', ht, rfl⟩)
          clear ht
          generalize hS : (⟨(textL y' m' d' k' s').toArray⟩ : ByteArray) = S at *
          clear hS
          have HB := hide (show Below w.heap.size w w3 from ((below_drewN hb nq).trans (hb2.mono (by simpa using hb.size))).trans (hb3.mono (by have := hb.size; have := hb2.size; simp at this; omega)))
          clear hb2 hb3
          by_cases he : S = s
          · have he' := seq_true he
            have hE := hide he
            clear he
            go_wp2
            go_ret2
            have hI := HI.out
            rw [hE.out] at hI
            exact .inl ⟨T, hbd.1, hbd.2, hI, rfl, HB.out⟩
          · have he' := seq_false he
            have hE := hide he
            clear he
            go_wp2
            go_ret2
            refine .inr ⟨fun t ht => ?_, rfl, HB.out⟩
            have e1 : t = T := by rw [HT.out]; exact (parse_says ht).2.2.symm
            subst e1
            exact hE.out (HI.out.uniq ht)
        · have hD := hide hd
          have HN := hide (show ∀ t, ¬ IsText t s from fun t ht => hd (parse_says ht).2.1)
          by_cases hx : pY s < 1970 ∨ 9999 < pY s ∨ monTo (s.extract 8 11) 12 < 1 ∨ 12 < monTo (s.extract 8 11) 12
          · clear hd
            refine (tick_no1 (pY s) _ (pD s) 0 (pS s) _ hx).mono ?_
            rintro e w2 ⟨rfl, hb2⟩
            clear hx
            go_wp2
            go_ret2
            exact .inr ⟨HN.out, rfl, (below_drewN hb nq).trans (hb2.mono (by simpa using hb.size))⟩
          · have hy : pD s < 1 ∨ dim (pY s) (monTo (s.extract 8 11) 12) < pD s ∨ pS s < 0 ∨ 86400 ≤ pS s := by
              simp only [dayB, decide_eq_true_eq] at hd
              omega
            clear hd
            refine (tick_no2 (pY s) _ (pD s) 0 (pS s) _ (by omega) (by omega) (by omega) (by omega) hy).mono ?_
            rintro e w2 ⟨rfl, hb2⟩
            clear hx hy
            go_wp2
            go_ret2
            exact .inr ⟨HN.out, rfl, (below_drewN hb nq).trans (hb2.mono (by simpa using hb.size))⟩

theorem dparse_any (s : ByteArray) (w : World) (hs : s.size ≤ 9223372036854775807) :
    Calls Tryz.prog 22 #[.string s] w (ParseOk s w) := by
  by_cases h : s.size = 29
  · exact parse_walk s w h
  · exact parse_short s w hs h
end Go.Proofs.YtmelcndflllgmaaGreatDoor
namespace Go.Proofs.YtmelcndflllgmaaGreatDoor
open Go.RowKit DateM Go.Lib

def rY (s : ByteArray) : Int := numR (List.take 4 (List.drop 12 s.data.toList))
def rD (s : ByteArray) : Int := numR (List.take 2 (List.drop 5 s.data.toList))
def rH (s : ByteArray) : Int := numR (List.take 2 (List.drop 17 s.data.toList))
def rM (s : ByteArray) : Int := numR (List.take 2 (List.drop 20 s.data.toList))
def rX (s : ByteArray) : Int := numR (List.take 2 (List.drop 23 s.data.toList))

theorem numR_of {l : List UInt8} (h : l.all isDigit = true) : numR l = numF l := by unfold numR; rw [if_pos h]

theorem rparse_says {t : Int} {s : ByteArray} (h : IsText t s) :
    s.size = 29 ∧ (0 ≤ rH s ∧ rH s ≤ 23 ∧ 0 ≤ rM s ∧ rM s ≤ 59 ∧ 0 ≤ rX s ∧ rX s ≤ 59) ∧ dayB (rY s) (monTo (s.extract 8 11) 12) (rD s) (3600 * rH s + 60 * rM s + rX s) = true ∧ tickN (rY s) (monTo (s.extract 8 11) 12) (rD s) (3600 * rH s + 60 * rM s + rX s) = t := by
  obtain ⟨y, m, d, k, c, ht, rfl⟩ := h
  obtain ⟨hy1, hy2, hm1, hm2, hd1, hd2, hk1, hk2, hs1, hs2⟩ := ht.bd
  have P := parts_of (y := y) (d := d) (c := c) hk1 hk2 hm1 hm2
  have e1 : rY ⟨(textL y m d k c).toArray⟩ = y := by unfold rY; rw [P.yr, numR_of (by simp [dig_ok])]; exact num4 y (by omega) hy2
  have e2 : rD ⟨(textL y m d k c).toArray⟩ = d := by unfold rD; rw [P.dt, numR_of (by simp [dig_ok])]; exact num2 d (by omega) (by omega)
  have e3 : rH ⟨(textL y m d k c).toArray⟩ = c / 3600 := by unfold rH; rw [P.hr, numR_of (by simp [dig_ok])]; exact num2 _ (by omega) (by omega)
  have e4 : rM ⟨(textL y m d k c).toArray⟩ = c / 60 % 60 := by unfold rM; rw [P.mi, numR_of (by simp [dig_ok])]; exact num2 _ (by omega) (by omega)
  have e5 : rX ⟨(textL y m d k c).toArray⟩ = c % 60 := by unfold rX; rw [P.se, numR_of (by simp [dig_ok])]; exact num2 _ (by omega) (by omega)
  have e6 : monTo ((⟨(textL y m d k c).toArray⟩ : ByteArray).extract 8 11) 12 = m := by rw [P.mo]; exact monTo_name m hm1 hm2
  have e7 : 3600 * (c / 3600) + 60 * (c / 60 % 60) + c % 60 = c := by omega
  rw [e1, e2, e3, e4, e5, e6, e7]
  exact ⟨P.size, by omega, ht.day, ht.tick⟩

set_option maxHeartbeats 400000 in
theorem rparse_short (s : ByteArray) (w : World) (_hs : s.size ≤ 9223372036854775807) (h : s.size ≠ 29) :
    Calls Tryz.prog 33 #[.string s] w (ParseOk s w) := by
  have h1 : ((s.size : Int) != 29) = true := by simp; omega
  go_enter Tryz.func33, Tryz.ntmps33
  go_wp2
  go_ret2
  exact .inr ⟨fun t ht => h (parse_says ht).1, rfl, Below.refl _ _⟩

theorem numR_bd (l : List UInt8) (h : l.length ≤ 4) : -60000 ≤ numR l ∧ numR l ≤ 300000 := by
  have := numF_bd l h
  unfold numR; split <;> omega

set_option maxRecDepth 100000 in
set_option maxHeartbeats 4000000 in
theorem rparse_walk (s : ByteArray) (w : World) (h : s.size = 29) :
    Calls Tryz.prog 33 #[.string s] w (ParseOk s w) := by
  have f1 : ∀ X : World, (Instr.slice 9 (.string s) (some (.int .i64 12)) (some (.int .i64 16)) none).run Tryz.prog X = .ok (.string (s.extract 12 16)) X := fun X => slice_at s 12 16 (by omega) (by omega) X
  have f2 : ∀ X : World, (Instr.slice 9 (.string s) (some (.int .i64 5)) (some (.int .i64 7)) none).run Tryz.prog X = .ok (.string (s.extract 5 7)) X := fun X => slice_at s 5 7 (by omega) (by omega) X
  have f3 : ∀ X : World, (Instr.slice 9 (.string s) (some (.int .i64 8)) (some (.int .i64 11)) none).run Tryz.prog X = .ok (.string (s.extract 8 11)) X := fun X => slice_at s 8 11 (by omega) (by omega) X
  have f4 : ∀ X : World, (Instr.slice 9 (.string s) (some (.int .i64 17)) (some (.int .i64 19)) none).run Tryz.prog X = .ok (.string (s.extract 17 19)) X := fun X => slice_at s 17 19 (by omega) (by omega) X
  have f5 : ∀ X : World, (Instr.slice 9 (.string s) (some (.int .i64 20)) (some (.int .i64 22)) none).run Tryz.prog X = .ok (.string (s.extract 20 22)) X := fun X => slice_at s 20 22 (by omega) (by omega) X
  have f6 : ∀ X : World, (Instr.slice 9 (.string s) (some (.int .i64 23)) (some (.int .i64 25)) none).run Tryz.prog X = .ok (.string (s.extract 23 25)) X := fun X => slice_at s 23 25 (by omega) (by omega) X
  have h1 : ((s.size : Int) != 29) = false := by simp; omega
  have HZ := hide h
  clear h
  go_enter Tryz.func33, Tryz.ntmps33
  go_upto_region 3 with fail
  go_cut [4] (fun s4 wx => ∃ g : Nat, s4 = .pointer (some ⟨g, 0, none⟩) ∧ Blk wx g 94 #[.int .i64 (rY s), .int .i64 0, .int .i64 (rD s), .int .i64 0] ∧ w.heap.size ≤ g ∧ Below w.heap.size w wx)
  case first =>
    go_region_held3 (fun _ => True) (trivial) (first | (go_at_call 72; refine (rnumber_any _ _ ?_).mono ?_; exact Nat.le_trans (extract_sz _ _ _) (by decide); rintro e w' ⟨rfl, rfl⟩))
    all_goals go_wp2_with fail
    all_goals go_meet
    all_goals exact ⟨_, rfl, (Blk.new w _ _).drew, Nat.le_refl _, ((Below.refl _ _).alloc (Nat.le_refl _) _).drew⟩
  case rest =>
    obtain ⟨g, rfl, hB, hg, hb⟩ := hcut
    go_wp2_with fail
    go_loopw [5] (fun i wr => ∃ m : Int, 1 ≤ m ∧ m ≤ 13 ∧ i = .int .i64 m ∧ Blk wr g 94 #[.int .i64 (rY s), .int .i64 (monTo (s.extract 8 11) (m - 1).toNat), .int .i64 (rD s), .int .i64 0] ∧ Below w.heap.size w wr) (fun i _ => (13 - intOf i).toNat)
    case atStart => exact ⟨1, by omega, by omega, rfl, hB, hb⟩
    case round =>
      obtain ⟨m, hm1, hm2, rfl, hB, hb⟩ := hrel
      by_cases hlt : m ≤ 12
      · have f7 : ∀ X : World, (Instr.slice 9 (.string yearNames) (some (.int .i64 (3 * m - 3))) (some (.int .i64 (3 * m))) none).run Tryz.prog X = .ok (.string (yearName m)) X := fun X => by
          have h : yearNames.size = 36 := rfl
          rw [run_slice_string_if X _ _ _ _ _ _ Tryz.underlying9, if_pos (by omega), if_pos (by omega)]; rfl
        have c1 := hB.cell 1
        have z1 := hB.frozen 1
        simp only [List.getElem?_toArray, List.getElem?_cons_succ, List.getElem?_cons_zero] at c1
        have hM := hide (show monTo (s.extract 8 11) (m + 1 - 1).toNat = if s.extract 8 11 = yearName m then m else monTo (s.extract 8 11) (m - 1).toNat by
          obtain ⟨k, hk⟩ : ∃ k : Nat, m = (k : Int) + 1 := ⟨(m - 1).toNat, by omega⟩
          subst hk
          have e1 : ((k : Int) + 1 + 1 - 1).toNat = k + 1 := by omega
          have e2 : ((k : Int) + 1 - 1).toNat = k := by omega
          rw [e1, e2, monTo])
        by_cases he : s.extract 8 11 = yearName m
        · have hE := hide he
          have he' := seq_true he.symm
          clear he
          go_wp2_with fail
          go_quiet ((go_at_call 73; exact quiet_left (months_any _)))
          go_wp2
          go_roundw
          case rel => exact ⟨m + 1, by omega, by omega, rfl, by rw [hM.out, if_pos hE.out]; exact (hB.drewN _).set_ 1 _, (below_drewN hb _).setCell hg _⟩
          case measure => simp [intOf]; omega
        · have hE := hide he
          have he' := seq_false (fun h => he h.symm)
          clear he
          go_wp2_with fail
          go_quiet ((go_at_call 73; exact quiet_left (months_any _)))
          go_wp2
          go_roundw
          case rel => exact ⟨m + 1, by omega, by omega, rfl, by rw [hM.out, if_neg hE.out]; exact hB.drewN _, below_drewN hb _⟩
          case measure => simp [intOf]; omega
      · obtain rfl : m = 13 := by omega
        clear f1 f2 f3
        have b4 := numR_bd (List.take 2 (List.drop 17 s.data.toList)) (by simp; omega)
        have b5 := numR_bd (List.take 2 (List.drop 20 s.data.toList)) (by simp; omega)
        have b6 := numR_bd (List.take 2 (List.drop 23 s.data.toList)) (by simp; omega)
        have c0 := hB.cell 0
        have c1 := hB.cell 1
        have c2 := hB.cell 2
        have c3 := hB.cell 3
        simp only [List.getElem?_toArray, List.getElem?_cons_succ, List.getElem?_cons_zero] at c0 c1 c2 c3
        have e12 : ((13 : Int) - 1).toNat = 12 := rfl
        rw [e12] at c1
        clear e12
        go_wp2_with fail
        go_quiet ((go_at_call 72; exact quiet_left (rnumber_any _ _ (by simp; omega))))
        by_cases hg2 : 0 ≤ rH s ∧ rH s ≤ 23 ∧ 0 ≤ rM s ∧ rM s ≤ 59 ∧ 0 ≤ rX s ∧ rX s ≤ 59
        · have hg3 := hg2
          unfold rH rM rX at hg3
          obtain ⟨x1, x2, x3, x4, x5, x6⟩ := hg3
          have HG := hide hg2
          clear hg2 b4 b5 b6
          go_wp2_with fail
          by_cases hd : dayB (rY s) (monTo (s.extract 8 11) 12) (rD s) (3600 * rH s + 60 * rM s + rX s) = true
          · have hD := hide hd
            have hbd := tickN_bd hd
            have hd2 : 1970 ≤ rY s ∧ rY s ≤ 9999 ∧ 1 ≤ monTo (s.extract 8 11) 12 ∧ monTo (s.extract 8 11) 12 ≤ 12 ∧ 1 ≤ rD s ∧ rD s ≤ dim (rY s) (monTo (s.extract 8 11) 12) ∧ 0 ≤ (3600 * rH s + 60 * rM s + rX s) ∧ (3600 * rH s + 60 * rM s + rX s) < 86400 := by
              simpa only [dayB, decide_eq_true_eq] using hd
            obtain ⟨q1, q2, q3, q4, q5, q6, q7, q8⟩ := hd2
            clear hd
            refine (rtick_yes (rY s) _ (rD s) 0 (3600 * rH s + 60 * rM s + rX s) _ q1 q2 q3 q4 q5 q6 q7 q8).mono ?_
            rintro e w2 ⟨rfl, hb2⟩
            clear q1 q2 q3 q4 q5 q6 q7 q8 c0 c1 c2 c3
            obtain ⟨T, hT⟩ : ∃ T, T = tickN (rY s) (monTo (s.extract 8 11) 12) (rD s) (3600 * rH s + 60 * rM s + rX s) := ⟨_, rfl⟩
            rw [← hT] at hbd ⊢
            have HT := hide hT
            clear hT
            go_wp2_with fail
            refine (rtext_yes T _ hbd.1 hbd.2).mono ?_
            rintro e w3 ⟨y', m', d', k', s', ht, rfl, hb3⟩
            have HI := hide (show IsText T ⟨(textL y' m' d' k' s').toArray⟩ from ⟨y', m', d', k', s', ht, rfl⟩)
            clear ht
            generalize hS : (⟨(textL y' m' d' k' s').toArray⟩ : ByteArray) = S at *
            clear hS
            have HB := hide (show Below w.heap.size w w3 from ((below_drewN hb nq).trans (hb2.mono (by simpa using hb.size))).trans (hb3.mono (by have := hb.size; have := hb2.size; simp at this; omega)))
            clear hb2 hb3
            by_cases he : S = s
            · have he' := seq_true he
              have hE := hide he
              clear he
              go_wp2
              go_ret2
              have hI := HI.out
              rw [hE.out] at hI
              exact .inl ⟨T, hbd.1, hbd.2, hI, rfl, HB.out⟩
            · have he' := seq_false he
              have hE := hide he
              clear he
              go_wp2
              go_ret2
              refine .inr ⟨fun t ht => ?_, rfl, HB.out⟩
              have e1 : t = T := by rw [HT.out]; exact (rparse_says ht).2.2.2.symm
              subst e1
              exact hE.out (HI.out.uniq ht)
          · have hD := hide hd
            have HN := hide (show ∀ t, ¬ IsText t s from fun t ht => hd (rparse_says ht).2.2.1)
            have hd' : dayB (rY s) (monTo (s.extract 8 11) 12) (rD s) (3600 * rH s + 60 * rM s + rX s) = false := by simpa using hd
            clear hd
            refine (rtick_no (rY s) _ (rD s) 0 (3600 * rH s + 60 * rM s + rX s) _ hd').mono ?_
            rintro e w2 ⟨rfl, hb2⟩
            clear hd'
            go_wp2
            go_ret2
            exact .inr ⟨HN.out, rfl, (below_drewN hb nq).trans (hb2.mono (by simpa using hb.size))⟩
        · have HN := hide (show ∀ t, ¬ IsText t s from fun t ht => hg2 (rparse_says ht).2.1)
          unfold rH rM rX at hg2
          go_wp2_with fail
          all_goals go_ret2
          all_goals exact .inr ⟨HN.out, rfl, below_drewN hb nq⟩

theorem drparse_any (s : ByteArray) (w : World) (hs : s.size ≤ 9223372036854775807) :
    Calls Tryz.prog 33 #[.string s] w (ParseOk s w) := by
  by_cases h : s.size = 29
  · exact rparse_walk s w h
  · exact rparse_short s w hs h
end Go.Proofs.YtmelcndflllgmaaGreatDoor
