/-
  One directive more: the reference's walk.
-/
import Derived.Test.YtmelcndflllgmaaGreatDoorGrRa
import Derived.Test.YtmelcndflllgmaaGreatDoorGrCe
import Derived.Deep.DeepCutAuto
import Derived.Deep.CutBlock
namespace Go.Proofs.YtmelcndflllgmaaGreatDoor
open Go.RowKit
set_option linter.unusedVariables false
set_option linter.unusedSimpArgs false

set_option maxRecDepth 100000 in
set_option maxHeartbeats 16000000 in
theorem rone_any (r : RuleM) (d : ByteArray) (w : World) (hs : d.size ≤ 1000000) : Calls Tryz.prog 69 #[.agg r.cells, .string d] w (RuleGot (heedV r d.data.toList) w) := by
  go_enter Tryz.func69, Tryz.ntmps69
  unfold RuleM.cells
  go_wp2_with fail
  obtain ⟨w1, hw1⟩ : ∃ w1 : World, w1 = (w.alloc (.cells #[.int .i64 r.mx, .int .i64 r.sh, .int .i64 r.wh, .int .i64 r.er, .bool r.ns, .bool r.nc, .bool r.pv] 58)).alloc (.cells #[.int .i64 0, .int .i64 0, .int .i64 0, .int .i64 0, .bool false, .bool false, .bool false] 58) := ⟨_, rfl⟩
  first | rw [← hw1] | skip
  have hB1 : Below w.heap.size w w1 := by rw [hw1]; exact (((Below.refl _ _).alloc (Nat.le_refl _) _).alloc (by simp) _)
  have R1 : Blk w1 w.heap.size 58 #[.int .i64 r.mx, .int .i64 r.sh, .int .i64 r.wh, .int .i64 r.er, .bool r.ns, .bool r.nc, .bool r.pv] := by rw [hw1]; exact (Blk.new _ _ _).alloc _
  have Z1 : Blk w1 (w.heap.size + 1) 58 #[.int .i64 0, .int .i64 0, .int .i64 0, .int .i64 0, .bool false, .bool false, .bool false] := by rw [hw1]; exact Blk.new' (by simp)
  clear hw1
  have HA0 := hide (show d.data.toList = (cutK d.data.toList ((d.size : Int) - 1 + 1).toNat).1 by rw [show ((d.size : Int) - 1 + 1).toNat = d.data.toList.length by rw [lsize]; omega, cutK_end])
  have HB0 := hide (show (⟨#[]⟩ : ByteArray).data.toList = (cutK d.data.toList ((d.size : Int) - 1 + 1).toNat).2 by rw [show ((d.size : Int) - 1 + 1).toNat = d.data.toList.length by rw [lsize]; omega, cutK_end])
  go_loop [5, 6, 7] (fun c5 c6 c7 => ∃ (i : Int) (a b : ByteArray), -1 ≤ i ∧ i < (d.size : Int) ∧ c7 = .int .i64 i ∧ c5 = .string a ∧ c6 = .string b ∧ Hid (a.data.toList = (cutK d.data.toList (i + 1).toNat).1) ∧ Hid (b.data.toList = (cutK d.data.toList (i + 1).toNat).2)) (fun c5 c6 c7 => (intOf c7 + 1).toNat)
  case atStart => exact ⟨(d.size : Int) - 1, d, ⟨#[]⟩, by omega, by omega, rfl, rfl, rfl, HA0, HB0⟩
  case round =>
    clear HA0 HB0
    obtain ⟨i, a, b, hi0, hi1, rfl, rfl, rfl, HA, HB⟩ := hrel
    by_cases hge : 0 ≤ i
    · obtain ⟨m, rfl⟩ : ∃ m : Nat, i = (m : Int) := ⟨i.toNat, by omega⟩
      have hm : m < d.size := by omega
      have hl : m < d.data.toList.length := by rw [lsize]; exact hm
      have em : ((m : Int) + 1).toNat = m + 1 := by omega
      have en : ((m : Int) - 1 + 1).toNat = m := by omega
      rw [em] at HA HB
      cases e61 : ((d[m].toNat : Int) == 61)
      · have f61 : d.data.toList[m] ≠ 61 := byte_ne (c := 61) e61
        have hk := cutK_miss hl f61
        have HA' := hide (show a.data.toList = (cutK d.data.toList ((m : Int) - 1 + 1).toNat).1 by rw [en, hk]; exact HA.out)
        have HB' := hide (show b.data.toList = (cutK d.data.toList ((m : Int) - 1 + 1).toNat).2 by rw [en, hk]; exact HB.out)
        clear hk em en f61 HA HB
        go_wp2_with fail
        go_round
        case rel => exact ⟨(m : Int) - 1, a, b, by omega, by omega, by go_num, rfl, rfl, HA', HB'⟩
        case measure => simp [intOf] <;> omega
      · have f61 : d.data.toList[m] = 61 := byte_eq (c := 61) e61
        have hk := cutK_hit hl f61
        obtain ⟨a2, ha2⟩ : ∃ x : ByteArray, x = d.extract 0 m := ⟨_, rfl⟩
        obtain ⟨b2, hb2⟩ : ∃ x : ByteArray, x = d.extract (m + 1) d.size := ⟨_, rfl⟩
        have HA' := hide (show a2.data.toList = (cutK d.data.toList ((m : Int) - 1 + 1).toNat).1 by rw [en, hk, ha2, Lib.extract_data]; simp)
        have HB' := hide (show b2.data.toList = (cutK d.data.toList ((m : Int) - 1 + 1).toNat).2 by rw [en, hk, hb2, Lib.extract_data]; exact List.take_of_length_le (Nat.le_of_eq (by rw [List.length_drop, lsize])))
        have HA2 := hide ha2
        have HB2 := hide hb2
        clear hk em en f61 HA HB ha2 hb2
        go_wp2_with fail
        rw [← HA2.out, ← HB2.out]
        go_round
        case rel => exact ⟨(m : Int) - 1, a2, b2, by omega, by omega, by go_num, rfl, rfl, HA', HB'⟩
        case measure => simp [intOf] <;> omega
    · obtain rfl : i = -1 := by omega
      have e0 : ((-1 : Int) + 1).toNat = 0 := rfl
      rw [e0, cutK_zero] at HA HB
      have HBB := HB
      clear e0
      have hal := (cutEq_len d.data.toList).1
      rw [← HA.out, lsize, lsize] at hal
      have hbl := (cutEq_len d.data.toList).2
      rw [← HB.out, lsize, lsize] at hbl
      go_upto_region 9 with fail
      go_cut [42] (fun t wx => t = .bool (unqB b.data.toList) ∧ w1 = wx)
      case first =>
        by_cases h2 : b.size < 2
        · have d1 : decide ((b.size : Int) ≥ 2) = false := decide_eq_false (by omega)
          have HX := hide (unqB_short h2)
          go_wp2_with fail
          go_meet
          exact ⟨by rw [HX.out], rfl⟩
        · have d1 : decide ((b.size : Int) ≥ 2) = true := decide_eq_true (by omega)
          have l0 : 0 < b.size := by omega
          have l1 : b.size - 1 < b.size := by omega
          have z2 : (2 : Int) ≤ (b.size : Int) := by omega
          cases e1 : (((b[0]'l0).toNat : Int) == 34)
          · have HX := hide (unqB_head l0 e1)
            go_wp2_with fail
            go_meet
            exact ⟨by rw [HX.out], rfl⟩
          · cases e2 : (((b[b.size - 1]'l1).toNat : Int) == 34)
            · have HX := hide (unqB_last l1 e2)
              go_wp2_with fail
              go_meet
              exact ⟨by rw [HX.out], rfl⟩
            · have HX := hide (unqB_yes (by omega) l0 l1 e1 e2)
              go_wp2_with fail
              go_meet
              exact ⟨by rw [HX.out], rfl⟩
      case rest =>
        obtain ⟨rfl, rfl⟩ := hcut
        go_upto_if 42 with fail
        go_cut [6] (fun s wx => ∃ u : ByteArray, s = .string u ∧ Hid (u.data.toList = unq b.data.toList) ∧ w1 = wx)
        case first =>
          cases q : unqB b.data.toList
          · have HX := hide (unq_no q)
            go_wp2_with fail
            go_meet
            exact ⟨b, rfl, HX.out.symm, rfl⟩
          · have HX := hide (unq_yes q).1
            have h2 := (unq_yes q).2
            rw [lsize] at h2
            have z2 : (2 : Int) ≤ (b.size : Int) := by omega
            go_wp2_with fail
            go_meet
            exact ⟨_, rfl, by rw [HX.out, Lib.extract_data]; congr 1, rfl⟩
        case rest =>
          obtain ⟨u, rfl, HU, rfl⟩ := hcut
          have hus : u.size ≤ 9223372036854775807 := by have := unq_len b.data.toList; rw [← HU.out, lsize, lsize] at this; omega
          go_wp2_with fail
          refine (rlower_any a w1 (by omega)).mono ?_
          rintro e w3 ⟨rfl, hb3⟩
          obtain ⟨nm, hnm⟩ : ∃ nm : ByteArray, nm = ⟨(a.data.toList.map lowB).toArray⟩ := ⟨_, rfl⟩
          rw [← hnm]
          have HNM := hide (show nm.data.toList = nameV d.data.toList by rw [hnm]; show a.data.toList.map lowB = _; rw [HA.out]; rfl)
          have hB3 := hB1.trans (hb3.mono hB1.size)
          have R3 := R1.below hb3 R1.lt
          have Z3 := Z1.below hb3 Z1.lt
          clear hnm hb3 R1 Z1 hB1
          have cR := R3.cell
          have fR := R3.frozen
          have cZ := Z3.cell
          have fZ := Z3.frozen
          go_upto_block 2 with fail
          go_cut [] (fun wx => Blk wx w.heap.size 58 (heedV r d.data.toList).cells ∧ Blk wx (w.heap.size + 1) 58 #[.int .i64 0, .int .i64 0, .int .i64 0, .int .i64 0, .bool false, .bool false, .bool false] ∧ Below w.heap.size w wx)
          case first =>
            by_cases n0 : nameV d.data.toList = nMax
            · have g0 : (nm.toList == [109, 97, 120, 45, 97, 103, 101]) = true := by rw [beq_iff_eq, ByteArray.toList_eq, HNM.out, n0]; rfl
              have N0 := hide n0
              clear n0
              have HX := hide (dir_max N0.out r)
              go_upto_region 13 with fail
              go_region_with (first | (go_at_call 75; refine (rcnumber_any u _ hus).mono ?_; rintro e w' ⟨rfl, rfl⟩; rw [HU.out]) | (go_at_call 108; refine (less_any _ _ _).mono ?_; rintro e w' ⟨rfl, rfl⟩))
              all_goals (go_wp2_with fail; go_meet)
              all_goals exact ⟨by rw [HX.out, ← HBB.out]; exact (R3.drew).set_ 0 _, (Z3.drew).far (by show w.heap.size + 1 ≠ w.heap.size; omega) _, below_set hB3.drew (Nat.le_refl _) _⟩
            · have g0 : (nm.toList == [109, 97, 120, 45, 97, 103, 101]) = false := by rw [beq_eq_false_iff_ne, ByteArray.toList_eq, HNM.out]; exact n0
              have N0 := hide n0
              clear n0
              by_cases n1 : nameV d.data.toList = nSh
              · have g1 : (nm.toList == [115, 45, 109, 97, 120, 97, 103, 101]) = true := by rw [beq_iff_eq, ByteArray.toList_eq, HNM.out, n1]; rfl
                have N1 := hide n1
                clear n1
                have HX := hide (dir_sh N1.out r)
                go_upto_region 15 with fail
                go_region_with (first | (go_at_call 75; refine (rcnumber_any u _ hus).mono ?_; rintro e w' ⟨rfl, rfl⟩; rw [HU.out]) | (go_at_call 108; refine (less_any _ _ _).mono ?_; rintro e w' ⟨rfl, rfl⟩))
                all_goals (go_wp2_with fail; go_meet)
                all_goals exact ⟨by rw [HX.out, ← HBB.out]; exact (R3.drew).set_ 1 _, (Z3.drew).far (by show w.heap.size + 1 ≠ w.heap.size; omega) _, below_set hB3.drew (Nat.le_refl _) _⟩
              · have g1 : (nm.toList == [115, 45, 109, 97, 120, 97, 103, 101]) = false := by rw [beq_eq_false_iff_ne, ByteArray.toList_eq, HNM.out]; exact n1
                have N1 := hide n1
                clear n1
                by_cases n2 : nameV d.data.toList = nWh
                · have g2 : (nm.toList == [115, 116, 97, 108, 101, 45, 119, 104, 105, 108, 101, 45, 114, 101, 118, 97, 108, 105, 100, 97, 116, 101]) = true := by rw [beq_iff_eq, ByteArray.toList_eq, HNM.out, n2]; rfl
                  have N2 := hide n2
                  clear n2
                  have HX := hide (dir_wh N2.out r)
                  go_upto_region 17 with fail
                  go_region_with (first | (go_at_call 75; refine (rcnumber_any u _ hus).mono ?_; rintro e w' ⟨rfl, rfl⟩; rw [HU.out]) | (go_at_call 108; refine (less_any _ _ _).mono ?_; rintro e w' ⟨rfl, rfl⟩))
                  all_goals (go_wp2_with fail; go_meet)
                  all_goals exact ⟨by rw [HX.out, ← HBB.out]; exact (R3.drew).set_ 2 _, (Z3.drew).far (by show w.heap.size + 1 ≠ w.heap.size; omega) _, below_set hB3.drew (Nat.le_refl _) _⟩
                · have g2 : (nm.toList == [115, 116, 97, 108, 101, 45, 119, 104, 105, 108, 101, 45, 114, 101, 118, 97, 108, 105, 100, 97, 116, 101]) = false := by rw [beq_eq_false_iff_ne, ByteArray.toList_eq, HNM.out]; exact n2
                  have N2 := hide n2
                  clear n2
                  by_cases n3 : nameV d.data.toList = nEr
                  · have g3 : (nm.toList == [115, 116, 97, 108, 101, 45, 105, 102, 45, 101, 114, 114, 111, 114]) = true := by rw [beq_iff_eq, ByteArray.toList_eq, HNM.out, n3]; rfl
                    have N3 := hide n3
                    clear n3
                    have HX := hide (dir_er N3.out r)
                    go_upto_region 19 with fail
                    go_region_with (first | (go_at_call 75; refine (rcnumber_any u _ hus).mono ?_; rintro e w' ⟨rfl, rfl⟩; rw [HU.out]) | (go_at_call 108; refine (less_any _ _ _).mono ?_; rintro e w' ⟨rfl, rfl⟩))
                    all_goals (go_wp2_with fail; go_meet)
                    all_goals exact ⟨by rw [HX.out, ← HBB.out]; exact (R3.drew).set_ 3 _, (Z3.drew).far (by show w.heap.size + 1 ≠ w.heap.size; omega) _, below_set hB3.drew (Nat.le_refl _) _⟩
                  · have g3 : (nm.toList == [115, 116, 97, 108, 101, 45, 105, 102, 45, 101, 114, 114, 111, 114]) = false := by rw [beq_eq_false_iff_ne, ByteArray.toList_eq, HNM.out]; exact n3
                    have N3 := hide n3
                    clear n3
                    by_cases n4 : nameV d.data.toList = nNs
                    · have g4 : (nm.toList == [110, 111, 45, 115, 116, 111, 114, 101]) = true := by rw [beq_iff_eq, ByteArray.toList_eq, HNM.out, n4]; rfl
                      have N4 := hide n4
                      clear n4
                      have HX := hide (dir_ns_ N4.out r)
                      go_wp2_with fail
                      go_meet
                      exact ⟨by rw [HX.out]; exact R3.set_ 4 _, Z3.far (by show w.heap.size + 1 ≠ w.heap.size; omega) _, below_set hB3 (Nat.le_refl _) _⟩
                    · have g4 : (nm.toList == [110, 111, 45, 115, 116, 111, 114, 101]) = false := by rw [beq_eq_false_iff_ne, ByteArray.toList_eq, HNM.out]; exact n4
                      have N4 := hide n4
                      clear n4
                      by_cases n5 : nameV d.data.toList = nNc
                      · have g5 : (nm.toList == [110, 111, 45, 99, 97, 99, 104, 101]) = true := by rw [beq_iff_eq, ByteArray.toList_eq, HNM.out, n5]; rfl
                        have N5 := hide n5
                        clear n5
                        have HX := hide (dir_nc_ N5.out r)
                        go_wp2_with fail
                        go_meet
                        exact ⟨by rw [HX.out]; exact R3.set_ 5 _, Z3.far (by show w.heap.size + 1 ≠ w.heap.size; omega) _, below_set hB3 (Nat.le_refl _) _⟩
                      · have g5 : (nm.toList == [110, 111, 45, 99, 97, 99, 104, 101]) = false := by rw [beq_eq_false_iff_ne, ByteArray.toList_eq, HNM.out]; exact n5
                        have N5 := hide n5
                        clear n5
                        by_cases n6 : nameV d.data.toList = nPv
                        · have g6 : (nm.toList == [112, 114, 105, 118, 97, 116, 101]) = true := by rw [beq_iff_eq, ByteArray.toList_eq, HNM.out, n6]; rfl
                          have N6 := hide n6
                          clear n6
                          have HX := hide (dir_pv_ N6.out r)
                          go_wp2_with fail
                          go_meet
                          exact ⟨by rw [HX.out]; exact R3.set_ 6 _, Z3.far (by show w.heap.size + 1 ≠ w.heap.size; omega) _, below_set hB3 (Nat.le_refl _) _⟩
                        · have g6 : (nm.toList == [112, 114, 105, 118, 97, 116, 101]) = false := by rw [beq_eq_false_iff_ne, ByteArray.toList_eq, HNM.out]; exact n6
                          have N6 := hide n6
                          clear n6
                          have HX := hide (dir_none N0.out N1.out N2.out N3.out N4.out N5.out N6.out r)
                          go_wp2_with fail
                          go_meet
                          exact ⟨by rw [HX.out]; exact R3, Z3, hB3⟩
          case rest =>
            obtain ⟨R4, Z4, hB4⟩ := hcut
            clear cR fR cZ fZ R3 Z3 hB3
            obtain ⟨r2, hr2⟩ : ∃ x, x = heedV r d.data.toList := ⟨_, rfl⟩
            rw [← hr2] at R4
            have HR2 := hide hr2
            clear hr2
            unfold RuleM.cells at R4
            have cR := R4.cell
            have cZ := Z4.cell
            have fZ := Z4.frozen
            go_wp2_with fail
            refine bodyPost_ret (v := .agg r2.cells) (by simp [results, Tryz.results69, go_sem, RuleM.cells, cR, cZ]) rfl ⟨by rw [HR2.out], ?_⟩
            repeat (refine below_set ?_ (by first | exact Nat.le_refl _ | exact Nat.le_succ _) _)
            exact hB4

end Go.Proofs.YtmelcndflllgmaaGreatDoor
