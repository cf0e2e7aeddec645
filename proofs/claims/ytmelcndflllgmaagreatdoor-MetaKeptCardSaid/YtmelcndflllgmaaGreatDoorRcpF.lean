/-
  The rule of values: the reference's walk.
-/
import Derived.Test.YtmelcndflllgmaaGreatDoorRcpD
import Derived.Test.YtmelcndflllgmaaGreatDoorRcpE
namespace Go.Proofs.YtmelcndflllgmaaGreatDoor
open Go.RowKit
set_option linter.unusedVariables false
set_option linter.unusedSimpArgs false

theorem say_parts2 (r : RuleM) (l : Bs) : sayV r l = (partsV l).foldl heedV r := by
  unfold sayV ruleOf partsV; rw [List.foldl_map]
theorem own_set {α : Type} {L : Lay α} {B k i : Nat} {w : World} {v : Value} {l : List α} (h : OwnL L B w v l) (hk : k < B) (u : Value) : OwnL L B (w.setCell ⟨k, i, none⟩ u) v l :=
  h.far (fun e => by have := (h.lt k e).1; omega) u
theorem set7 {w : World} {g : Nat} {t : TypeId} {a0 a1 a2 a3 a4 a5 a6 : Value} (h : Blk w g t #[a0, a1, a2, a3, a4, a5, a6]) (b0 b1 b2 b3 b4 b5 b6 : Value) :
    Blk (((((((w.setCell ⟨g, 0, none⟩ b0).setCell ⟨g, 1, none⟩ b1).setCell ⟨g, 2, none⟩ b2).setCell ⟨g, 3, none⟩ b3).setCell ⟨g, 4, none⟩ b4).setCell ⟨g, 5, none⟩ b5).setCell ⟨g, 6, none⟩ b6) g t #[b0, b1, b2, b3, b4, b5, b6] := by
  have := ((((((h.set_ 0 b0).set_ 1 b1).set_ 2 b2).set_ 3 b3).set_ 4 b4).set_ 5 b5).set_ 6 b6
  simpa using this
theorem belowD {wr w' : World} (h : Below wr.drew.heap.size wr.drew w') : Below wr.heap.size wr w' := (Below.refl _ _).drew.trans h

set_option maxRecDepth 100000 in
set_option maxHeartbeats 16000000 in
theorem rcparse_any (v : Value) (l : List Bs) (w : World) (hr : RdL LS w w.heap.size v l) (hz : ∀ x ∈ l, x.length ≤ 1000000) : Calls Tryz.prog 29 #[v] w (RuleGot (parsesV l) w) := by
  obtain ⟨A, c, rfl, hlc, hc⟩ := hr.form
  have HR0 := hide hr
  have HZS := hide hz
  have hll := hr.len
  clear hr hz
  go_enter Tryz.func29, Tryz.ntmps29
  go_wp2_with fail
  obtain ⟨w1, hw1⟩ : ∃ w1 : World, w1 = (w.alloc (.cells #[.int .i64 0, .int .i64 0, .int .i64 0, .int .i64 0, .bool false, .bool false, .bool false] 58)).alloc (.cells #[.int .i64 (-1), .int .i64 (-1), .int .i64 (-1), .int .i64 (-1), .bool false, .bool false, .bool false] 58) := ⟨_, rfl⟩
  first | rw [← hw1] | skip
  have hB1 : Below w.heap.size w w1 := by rw [hw1]; exact (((Below.refl _ _).alloc (Nat.le_refl _) _).alloc (by simp) _)
  have R1 : Blk w1 (w.heap.size + 1) 58 RuleM.zero.cells := by rw [hw1]; exact Blk.new' (by simp)
  have Z1 : Blk w1 w.heap.size 58 #[.int .i64 0, .int .i64 0, .int .i64 0, .int .i64 0, .bool false, .bool false, .bool false] := by rw [hw1]; exact (Blk.new _ _ _).alloc _
  clear hw1
  go_loopw [4] (fun c4 wr => ∃ (k : Nat) (r : RuleM), k ≤ l.length ∧ c4 = .int .i64 (k : Int) ∧ Hid (r = (l.take k).foldl sayV RuleM.zero) ∧ Blk wr (w.heap.size + 1) 58 r.cells ∧ Blk wr w.heap.size 58 #[.int .i64 0, .int .i64 0, .int .i64 0, .int .i64 0, .bool false, .bool false, .bool false] ∧ Below w.heap.size w wr) (fun c4 _ => l.length - (intOf c4).toNat)
  case atStart => exact ⟨0, RuleM.zero, Nat.zero_le _, rfl, rfl, R1, Z1, hB1⟩
  case round =>
    clear R1 Z1 hB1
    obtain ⟨k, r, hk, rfl, HR, hR, hZ, hbel⟩ := hrel
    by_cases hlt : k < l.length
    · obtain ⟨b0, off, hA, hb0, hcell⟩ := HR0.out.at_ k hlt
      subst hA
      obtain ⟨x, hx⟩ : ∃ x : ByteArray, x = ⟨l[k].toArray⟩ := ⟨_, rfl⟩
      have hcl : wr.cell? ⟨b0, off + k, none⟩ = some (.string x) := by rw [hbel.cell (p := ⟨b0, off + k, none⟩) hb0, hx]; simpa [LS] using hcell 0 _ rfl
      have hxl : x.data.toList = l[k] := by rw [hx]
      have hxs : x.size ≤ 1000000 := by have := HZS.out l[k] (List.getElem_mem hlt); rw [← hxl, lsize] at this; exact this
      have HX := hide hxl
      have lR := hR.lt
      clear hx hxl hcell
      go_wp2_with fail
      refine (rparts_any x _ hxs).mono ?_
      rintro e w2 ⟨v5, rfl, O5, hb2⟩
      have hB2 := hbel.trans (hb2.mono hbel.size)
      have hR2 := hR.below hb2 hR.lt
      have hZ2 := hZ.below hb2 hZ.lt
      have O6 := O5.mono (show w.heap.size + 2 ≤ wr.heap.size by omega)
      obtain ⟨P, hP⟩ : ∃ P, P = partsV x.data.toList := ⟨_, rfl⟩
      have hpl := partsV_len x.data.toList
      rw [← hP] at O6 hpl
      rw [lsize] at hpl
      have HPL := hide hpl.1
      have hpl2 := hpl.2
      have HP := hide hP
      clear hP hpl hcl hR hZ hbel O5 hb2 lR
      obtain ⟨A5, k5, hv5, _, _⟩ := O6.rd.form
      subst hv5
      go_wp2_with fail
      go_loopw [6] (fun c6 wr => ∃ (j : Nat) (r2 : RuleM), j ≤ P.length ∧ c6 = .int .i64 (j : Int) ∧ Hid (r2 = (P.take j).foldl heedV r) ∧ OwnL LS (w.heap.size + 2) wr (.slice A5 P.length k5) P ∧ Blk wr (w.heap.size + 1) 58 r2.cells ∧ Blk wr w.heap.size 58 #[.int .i64 0, .int .i64 0, .int .i64 0, .int .i64 0, .bool false, .bool false, .bool false] ∧ Below w.heap.size w wr) (fun c6 _ => P.length - (intOf c6).toNat)
      case atStart => exact ⟨0, r, by omega, rfl, rfl, O6, hR2, hZ2, hB2⟩
      case round =>
        clear O6 hR2 hZ2 hB2
        obtain ⟨j, r2, hj, rfl, HJ, hO, hR, hZ, hbel⟩ := hrel
        by_cases hjt : j < P.length
        · obtain ⟨b1, off1, hA1, hb1, hcell1⟩ := hO.rd.at_ j hjt
          subst hA1
          obtain ⟨y, hy⟩ : ∃ y : ByteArray, y = ⟨P[j].toArray⟩ := ⟨_, rfl⟩
          have hcy : wr.cell? ⟨b1, off1 + j, none⟩ = some (.string y) := by rw [hy]; simpa [LS] using hcell1 0 _ rfl
          have hyl : y.data.toList = P[j] := by rw [hy]
          have hys : y.size ≤ 1000000 := by have := HPL.out P[j] (List.getElem_mem hjt); rw [← hyl, lsize] at this; omega
          have HY := hide hyl
          have HNX := hide (show heedV r2 P[j] = (P.take (j + 1)).foldl heedV r by rw [List.take_succ_eq_append_getElem hjt, List.foldl_append, ← HJ.out]; rfl)
          have HR2 := hide hR
          have HZ2 := hide hZ
          have HO2 := hide hO
          unfold RuleM.cells at hR
          have cR := hR.cell
          have fR := hR.frozen
          have lR := hR.lt
          clear hy hyl hcell1 hR hZ hO
          go_upto_block 3 with fail
          go_cut [] (fun wx => Blk wx (w.heap.size + 1) 58 (heedV r2 P[j]).cells ∧ Blk wx w.heap.size 58 #[.int .i64 0, .int .i64 0, .int .i64 0, .int .i64 0, .bool false, .bool false, .bool false] ∧ OwnL LS (w.heap.size + 2) wx (.slice (some ⟨b1, off1, none⟩) P.length k5) P ∧ Below w.heap.size w wx)
          case first =>
            go_upto_region 9 with fail
            go_region_with ((go_at_call 69; refine (rone_any r2 y _ hys).mono ?_; rintro e w7 ⟨rfl, hb7⟩; replace hb7 := belowD hb7; obtain ⟨r3, hr3⟩ : ∃ x, x = heedV r2 y.data.toList := ⟨_, rfl⟩; rw [← hr3]; have H3 := hide hr3; clear hr3; unfold RuleM.cells; have c7 := fun i => ((HR2.out.below hb7 HR2.out.lt).cell i); have f7 := fun i => ((HR2.out.below hb7 HR2.out.lt).frozen i); have l7 := (HR2.out.below hb7 HR2.out.lt).lt; unfold RuleM.cells at c7))
            all_goals (go_wp2_with fail; go_meet)
            all_goals exact ⟨by rw [← HY.out, ← H3.out]; exact set7 (HR2.out.below hb7 HR2.out.lt) _ _ _ _ _ _ _, by (repeat (refine Blk.far ?_ (by show w.heap.size ≠ w.heap.size + 1; omega) _)); exact HZ2.out.below hb7 HZ2.out.lt, by (repeat (refine own_set ?_ (by omega) _)); exact HO2.out.below hb7 (Nat.le_refl _), by (repeat (refine below_set ?_ (Nat.le_succ _) _)); exact hbel.trans (hb7.mono hbel.size)⟩
          case rest =>
            obtain ⟨hR4, hZ4, hO4, hbel4⟩ := hcut
            clear cR fR lR hcy HR2 HZ2 HO2
            go_wp2_with fail
            go_roundw
            case rel => exact ⟨j + 1, _, by omega, by go_num, HNX, hO4, hR4, hZ4, hbel4⟩
            case measure => simp [intOf] <;> omega
        · obtain rfl : j = P.length := by omega
          have HS := hide (show r2 = (l.take (k + 1)).foldl sayV RuleM.zero by rw [says_step hlt, ← HR.out, ← HX.out, say_parts2, ← HP.out, HJ.out, List.take_length])
          go_wp2_with fail
          go_roundw
          case rel => exact ⟨k + 1, r2, by omega, by go_num, HS, hR, hZ, hbel⟩
          case measure => simp [intOf] <;> omega
    · obtain rfl : k = l.length := by omega
      have HX := hide (show r = parsesV l by rw [HR.out, List.take_length]; rfl)
      unfold RuleM.cells at hR
      have cR := hR.cell
      have cZ := hZ.cell
      have fZ := hZ.frozen
      go_wp2_with fail
      refine bodyPost_ret (v := .agg r.cells) (by simp [results, Tryz.results29, go_sem, RuleM.cells, cZ]) rfl ⟨by rw [HX.out], ?_⟩
      repeat (refine below_set ?_ (Nat.le_refl _) _)
      exact hbel

end Go.Proofs.YtmelcndflllgmaaGreatDoor
