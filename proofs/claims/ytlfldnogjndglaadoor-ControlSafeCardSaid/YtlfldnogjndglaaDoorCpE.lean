/-
  The rule of values: the program's walk.
-/
import Derived.Test.YtlfldnogjndglaaDoorCpD
import Derived.Test.YtlfldnogjndglaaDoorCpP
import Derived.Test.YtlfldnogjndglaaDoorTagP
import Derived.Deep.DeepCutAuto
namespace Go.Proofs.YtlfldnogjndglaaDoor
open Go.RowKit
set_option linter.unusedVariables false
set_option linter.unusedSimpArgs false

def RuleGot (r : RuleM) (w : World) (e : Ending) (w' : World) : Prop := e = .returned (.agg r.cells) ∧ Below w.heap.size w w'

set_option maxRecDepth 100000 in
set_option maxHeartbeats 16000000 in
theorem cparse_any (v : Value) (l : List Bs) (w : World) (hM : MaxI w.heap.size w) (hr : RdL LS w w.heap.size v l) (hz : ∀ x ∈ l, x.length ≤ 1000000) : Calls Tryd.prog 6 #[v] w (RuleGot (parsesV l) w) := by
  obtain ⟨A, c, rfl, hlc, hc⟩ := hr.form
  have HR0 := hide hr
  have HM := hide hM
  have HZ := hide hz
  have hll := hr.len
  clear hr hM hz
  go_enter Tryd.func6, Tryd.ntmps6
  go_wp2_with fail
  obtain ⟨w1, hw1⟩ : ∃ w1 : World, w1 = (w.alloc (.cells #[.int .i64 0, .int .i64 0, .int .i64 0, .int .i64 0, .bool false, .bool false, .bool false] 26)).alloc (.cells #[.int .i64 (-1), .int .i64 (-1), .int .i64 (-1), .int .i64 (-1), .bool false, .bool false, .bool false] 26) := ⟨_, rfl⟩
  first | rw [← hw1] | skip
  have hB1 : Below w.heap.size w w1 := by rw [hw1]; exact (((Below.refl _ _).alloc (Nat.le_refl _) _).alloc (by simp) _)
  have R1 : Blk w1 (w.heap.size + 1) 26 RuleM.zero.cells := by rw [hw1]; exact Blk.new' (by simp)
  have Z1 : Blk w1 w.heap.size 26 #[.int .i64 0, .int .i64 0, .int .i64 0, .int .i64 0, .bool false, .bool false, .bool false] := by rw [hw1]; exact (Blk.new _ _ _).alloc _
  clear hw1
  go_loopw [12] (fun c12 wr => ∃ (k : Nat) (r : RuleM), k ≤ l.length ∧ c12 = .int .i64 (k : Int) ∧ Hid (r = (l.take k).foldl sayV RuleM.zero) ∧ Blk wr (w.heap.size + 1) 26 r.cells ∧ Blk wr w.heap.size 26 #[.int .i64 0, .int .i64 0, .int .i64 0, .int .i64 0, .bool false, .bool false, .bool false] ∧ Below w.heap.size w wr) (fun c12 _ => l.length - (intOf c12).toNat)
  case atStart => exact ⟨0, RuleM.zero, Nat.zero_le _, rfl, rfl, R1, Z1, hB1⟩
  case round =>
    clear R1 Z1 hB1
    obtain ⟨k, r, hk, rfl, HR, hR, hZ, hbel⟩ := hrel
    by_cases hlt : k < l.length
    · obtain ⟨b0, off, hA, hb0, hcell⟩ := HR0.out.at_ k hlt
      subst hA
      obtain ⟨x, hx⟩ : ∃ x : ByteArray, x = ⟨l[k].toArray⟩ := ⟨_, rfl⟩
      have hcl : wr.cell? ⟨b0, off + k, none⟩ = some (.string x) := by rw [hbel.cell (p := ⟨b0, off + k, none⟩) hb0, hx]; simpa [LS] using hcell 0 _ rfl
      have hxl : x.data.toList = l[k] := by rw [hx]
      have hxs : x.size ≤ 1000000 := by have := HZ.out l[k] (List.getElem_mem hlt); rw [← hxl, lsize] at this; exact this
      have HX := hide hxl
      clear hx hxl hcell
      go_wp2_with fail
      clear hcl
      have HL0 := hide (rg_zero r x.data.toList)
      obtain ⟨wo, hwo⟩ : ∃ wo : World, wo = wr := ⟨_, rfl⟩
      rw [← hwo] at hR hZ hbel ⊢
      clear hwo
      go_loopw [6, 7, 8] (fun c6 c7 c8 wr => ∃ (j b : Nat) (q : Bool) (r2 : RuleM), j ≤ x.size + 1 ∧ b ≤ j ∧ c8 = .int .i64 (j : Int) ∧ c6 = .int .i64 (b : Int) ∧ c7 = .bool q ∧ Hid (RG r x.data.toList j b q r2) ∧ Blk wr (w.heap.size + 1) 26 r2.cells ∧ Blk wr w.heap.size 26 #[.int .i64 0, .int .i64 0, .int .i64 0, .int .i64 0, .bool false, .bool false, .bool false] ∧ Below w.heap.size w wr) (fun c6 c7 c8 _ => x.size + 1 - (intOf c8).toNat)
      case atStart => exact ⟨0, 0, false, r, by omega, by omega, rfl, rfl, rfl, HL0, hR, hZ, hbel⟩
      case round =>
        clear HL0 hR hZ hbel
        obtain ⟨j, b, q, r2, hj, hbj, rfl, rfl, rfl, HL, hR, hZ, hbel⟩ := hrel
        by_cases hle : j ≤ x.size
        · by_cases hlt : j < x.size
          · have hl : j < x.data.toList.length := by rw [lsize]; exact hlt
            have hne : ((j : Int) == (x.size : Int)) = false := by rw [beq_eq_false_iff_ne]; omega
            cases e34 : ((x[j].toNat : Int) == 34)
            · have f34 : (x.data.toList[j] == 34) = false := by rw [beq_eq_false_iff_ne]; exact byte_ne (c := 34) e34
              cases e44 : ((x[j].toNat : Int) == 44)
              · have f44 : (x.data.toList[j] == 44) = false := by rw [beq_eq_false_iff_ne]; exact byte_ne (c := 44) e44
                have HS := hide (rg_go (q' := q) hbj hl (by rw [f34]; simp) (by rw [f44]; rfl) HL.out)
                clear f34 f44
                go_wp2_with fail
                go_roundw
                case rel => exact ⟨j + 1, b, q, r2, by omega, by omega, by go_num, rfl, rfl, HS, hR, hZ, hbel⟩
                case measure => simp [intOf] <;> omega
              · have f44 : (x.data.toList[j] == 44) = true := by rw [beq_iff_eq]; exact byte_eq (c := 44) e44
                cases q
                · clear f34
                  have HS := hide (rg_cut hl f44 HL.out)
                  obtain ⟨u, hu⟩ : ∃ u : ByteArray, u = x.extract b j := ⟨_, rfl⟩
                  have hul : u.data.toList = segB x.data.toList b j := by rw [hu, Lib.extract_data]; rfl
                  have hus : u.size ≤ 1000000 := by rw [hu]; simp; omega
                  have HU := hide hul
                  have HUE := hide hu
                  clear hul hu HL f44
                  go_wp2_with fail
                  rw [← HUE.out]
                  refine (trim_any u _ (by omega)).mono ?_
                  rintro e w2 ⟨p, hp, rfl, hb2⟩
                  have hB2 := hbel.trans (hb2.mono hbel.size)
                  have R2 := hR.below hb2 hR.lt
                  have Z2 := hZ.below hb2 hZ.lt
                  have hps : p.size ≤ 1000000 := by have := trim_size u.data.toList; rw [← hp, lsize, lsize] at this; omega
                  have HP := hide (show p.data.toList = trimB (segB x.data.toList b j) by rw [hp, HU.out])
                  clear hp hb2 HUE hR hZ
                  go_wp2_with fail
                  refine (heed_any r2 (w.heap.size + 1) p w2 ((HM.out.below hB2).mono (Nat.le_succ _)) R2 hps).mono ?_
                  rintro e w3 ⟨rfl, R3, hb3⟩
                  have hB3 := hB2.trans (hb3.mono (Nat.le_succ _))
                  have Z3 := Z2.below hb3 (Nat.lt_succ_self _)
                  rw [HP.out] at R3
                  clear hb3
                  go_wp2_with fail
                  go_roundw
                  case rel => exact ⟨j + 1, j + 1, false, _, by omega, by omega, by go_num, by go_num, rfl, HS, R3, Z3, hB3⟩
                  case measure => simp [intOf] <;> omega
                · have HS := hide (rg_go (q' := true) hbj hl (by rw [f34]; rfl) (by simp) HL.out)
                  clear f34 f44
                  go_wp2_with fail
                  go_roundw
                  case rel => exact ⟨j + 1, b, true, r2, by omega, by omega, by go_num, rfl, rfl, HS, hR, hZ, hbel⟩
                  case measure => simp [intOf] <;> omega
            · have f34 : (x.data.toList[j] == 34) = true := by rw [beq_iff_eq]; exact byte_eq (c := 34) e34
              have e44 : ((x[j].toNat : Int) == 44) = false := by rw [beq_iff_eq] at e34; rw [e34]; rfl
              have HS := hide (rg_go (q' := !q) hbj hl (by rw [f34]; simp) (by rw [beq_iff_eq] at f34; rw [f34]; rfl) HL.out)
              clear f34
              go_wp2_with fail
              go_roundw
              case rel => exact ⟨j + 1, b, !q, r2, by omega, by omega, by go_num, rfl, rfl, HS, hR, hZ, hbel⟩
              case measure => simp [intOf] <;> omega
          · obtain rfl : j = x.size := by omega
            have hne : ((x.size : Int) == (x.size : Int)) = true := by rw [beq_iff_eq]
            have HS := hide (rg_end (by rw [lsize]) HL.out)
            obtain ⟨u, hu⟩ : ∃ u : ByteArray, u = x.extract b x.size := ⟨_, rfl⟩
            have hul : u.data.toList = segB x.data.toList b x.size := by rw [hu, Lib.extract_data]; rfl
            have hus : u.size ≤ 1000000 := by rw [hu]; simp; omega
            have HU := hide hul
            have HUE := hide hu
            clear hul hu HL
            go_wp2_with fail
            rw [← HUE.out]
            refine (trim_any u _ (by omega)).mono ?_
            rintro e w2 ⟨p, hp, rfl, hb2⟩
            have hB2 := hbel.trans (hb2.mono hbel.size)
            have R2 := hR.below hb2 hR.lt
            have Z2 := hZ.below hb2 hZ.lt
            have hps : p.size ≤ 1000000 := by have := trim_size u.data.toList; rw [← hp, lsize, lsize] at this; omega
            have HP := hide (show p.data.toList = trimB (segB x.data.toList b x.size) by rw [hp, HU.out])
            clear hp hb2 HUE hR hZ
            go_wp2_with fail
            refine (heed_any r2 (w.heap.size + 1) p w2 ((HM.out.below hB2).mono (Nat.le_succ _)) R2 hps).mono ?_
            rintro e w3 ⟨rfl, R3, hb3⟩
            have hB3 := hB2.trans (hb3.mono (Nat.le_succ _))
            have Z3 := Z2.below hb3 (Nat.lt_succ_self _)
            rw [HP.out] at R3
            clear hb3
            go_wp2_with fail
            go_roundw
            case rel => exact ⟨x.size + 1, x.size + 1, q, _, by omega, by omega, by go_num, by go_num, rfl, HS, R3, Z3, hB3⟩
            case measure => simp [intOf] <;> omega
        · obtain rfl : j = x.size + 1 := by omega
          have HS := hide (show r2 = (l.take (k + 1)).foldl sayV RuleM.zero by rw [says_step hlt, ← HR.out, ← HX.out]; exact rg_done (by rw [lsize]; omega) HL.out)
          go_wp2_with fail
          go_roundw
          case rel => exact ⟨k + 1, r2, by omega, by go_num, HS, hR, hZ, hbel⟩
          case measure => simp [intOf] <;> omega
    · obtain rfl : k = l.length := by omega
      have HX := hide (show r = parsesV l by rw [HR.out, List.take_length]; rfl)
      unfold RuleM.cells at hR
      have cR := hR.cell
      have cZ := hZ.cell
      have fZ := hZ.frozen
      go_wp2_with fail
      refine bodyPost_ret (v := .agg r.cells) (by simp [results, Tryd.results6, go_sem, RuleM.cells, cZ]) rfl ⟨by rw [HX.out], ?_⟩
      repeat (refine below_set ?_ (Nat.le_refl _) _)
      exact hbel

end Go.Proofs.YtlfldnogjndglaaDoor
