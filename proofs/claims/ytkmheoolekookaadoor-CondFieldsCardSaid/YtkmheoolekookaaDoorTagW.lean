/-
  A list's text: the program's walk.
-/
import Derived.Test.YtkmheoolekookaaDoorTagV
import Derived.Test.YtkmheoolekookaaDoorBuild
import Derived.Deep.DeepCutAuto
namespace Go.Proofs.YtkmheoolekookaaDoor
open Go.RowKit
set_option linter.unusedVariables false
set_option linter.unusedSimpArgs false

theorem comma_size : (⟨#[44, 32]⟩ : ByteArray).size = 2 := rfl

set_option maxHeartbeats 4000000 in
theorem texts_walk (v : Value) (ts : List TagL) (any : Bool) (w : World) (hr : RdL LT w w.heap.size v ts) (hz : ∀ t ∈ ts, t.1.length ≤ 9223372036854775807) (hn : ts.length ≤ 1000000) : Calls Tryd.prog 29 #[v, .bool any] w (StrOk (textsB ts any) w) := by
  obtain ⟨A, c, rfl, hlc, hcm⟩ := hr.form
  have hlen := hr.len
  cases any
  · go_enter Tryd.func29, Tryd.ntmps29
    go_wp2_with fail
    have D0 := Bld.new w w.heap.size (Nat.le_refl _)
    have hB0 : Below w.heap.size w (w.alloc (.cells #[.pointer none, .slice none 0 0] 84)) := (Below.refl _ _).alloc (Nat.le_refl _) _
    go_loopw [6, 7, 11] (fun c6 c7 c11 wr => ∃ (k : Nat) (acc : Bs), k ≤ ts.length ∧ c11 = .int .i64 (k : Int) ∧ acc.length ≤ k * 106 ∧ Bld w.heap.size w.heap.size wr acc ∧ Hid (TX ts k acc) ∧ Below w.heap.size w wr) (fun c6 c7 c11 _ => ts.length - (intOf c11).toNat)
    case atStart => exact ⟨0, [], Nat.zero_le _, rfl, Nat.zero_le _, D0, tx_zero _, hB0⟩
    case round =>
      clear D0 hB0
      obtain ⟨k, acc, hk, rfl, hacl, D, HT, hbel⟩ := hrel
      by_cases hlt : k < ts.length
      · obtain ⟨b0, off, hA, hb0, hcell⟩ := hr.at_ k hlt
        subst hA
        have hc0 : wr.cell? ⟨b0, off + k * 2, none⟩ = some (.string ⟨ts[k].1.toArray⟩) := by rw [hbel.cell (by show b0 < _; omega)]; simpa [LT] using hcell 0 _ rfl
        have hc1 : wr.cell? ⟨b0, off + k * 2 + 1, none⟩ = some (.bool ts[k].2) := by rw [hbel.cell (by show b0 < _; omega)]; simpa [LT] using hcell 1 _ rfl
        clear hcell
        obtain ⟨t, ht⟩ : ∃ t, t = ts[k] := ⟨_, rfl⟩
        rw [← ht] at hc0 hc1
        obtain ⟨x, hx⟩ : ∃ x : ByteArray, x = ⟨t.1.toArray⟩ := ⟨_, rfl⟩
        rw [← hx] at hc0
        have hxl : x.data.toList = t.1 := by rw [hx]
        have hxs : x.size ≤ 9223372036854775807 := by rw [← lsize, hxl, ht]; exact hz _ (List.getElem_mem hlt)
        clear hx
        have HTT := hide ht
        have HXL := hide hxl
        clear ht hxl
        go_upto_region 7 with fail
        obtain ⟨v1, hv1⟩ : ∃ W : World, W = wr.alloc (.cells #[.string x, .bool t.2] 27) := ⟨_, rfl⟩
        rw [← hv1]
        have K : Blk v1 wr.heap.size 27 #[.string x, .bool t.2] := by rw [hv1]; exact Blk.new _ _ _
        have D1 : Bld w.heap.size w.heap.size v1 acc := by rw [hv1]; exact D.alloc _
        have hB1 : Below w.heap.size w v1 := by rw [hv1]; exact hbel.alloc hbel.size _
        have hlt2 : w.heap.size < wr.heap.size := by obtain ⟨_, _, _, _, h, _⟩ := D; exact h.lt
        clear hv1 hc0 hc1
        have cK := K.cell
        cases ho : tagOk x
        · have HX := hide (tx_no HT.out hlt (by rw [← HTT.out, ← HXL.out, ← tagOk_L]; exact ho))
          have HO := hide ho
          clear ho
          go_wp2_with fail
          refine (tag_right x t.2 _ hxs).mono ?_
          rintro e w2 ⟨rfl, hb2⟩
          rw [HO.out]
          go_wp2_with fail
          go_ret
          exact ⟨_, HX.out.symm, rfl, hB1.trans (hb2.mono hB1.size)⟩
        · have HO := hide ho
          clear ho
          go_wp2_with fail
          refine (tag_right x t.2 _ hxs).mono ?_
          rintro e w2 ⟨rfl, hb2⟩
          rw [HO.out]
          have hB2 := hB1.trans (hb2.mono hB1.size)
          replace K := K.below hb2 K.lt
          have D2 := D1.below hb2 (Nat.le_refl _)
          clear cK hb2
          have cK := K.cell
          by_cases k0 : k = 0
          · have gk : decide ((k : Int) > 0) = false := by apply decide_eq_false; omega
            have gk3 : (k : Int) < 1 := by omega
            have K0 := hide k0
            clear k0
            have D3 := D2
            have hB3 := hB2
            go_wp2_with fail
            refine (text_any x t.2 _ hxs).mono ?_
            rintro e w4 ⟨v, hv, rfl, hb4⟩
            have hB4 := hB3.trans (hb4.mono hB3.size)
            have D4 := D3.below hb4 (Nat.le_refl _)
            have hvs : v.size ≤ 104 := by rw [← lsize, hv]; exact textB_len _
            have hacc : acc.length ≤ k * 106 + 2 := by omega
            have HS := hide (show TX ts (k + 1) (acc ++ v.data.toList) by
              have := tx_step HT.out hlt (by rw [← HTT.out, ← HXL.out, ← tagOk_L]; exact HO.out)
              rw [← HTT.out] at this
              have e : (k == 0) = true := by have := K0.out; simp; omega
              rw [e] at this
              rw [HXL.out] at hv
              rw [show textB t = v.data.toList from hv.symm] at this
              simpa using this)
            clear hv
            go_wp2_with fail
            refine (write_any w.heap.size w.heap.size (acc) v _ D4 hB4.size (by omega)).mono ?_
            rintro e w5 ⟨rfl, D5, hb5, hk5⟩
            have hB5 := hB4.trans hb5
            have hlen5 : (acc ++ v.data.toList).length ≤ (k + 1) * 106 := by rw [List.length_append, lsize]; omega
            go_wp2_with fail
            go_roundw
            case rel => exact ⟨k + 1, _, by omega, by go_num, hlen5, D5, HS, hB5⟩
            case measure => simp [intOf] <;> omega
          · have gk : decide ((k : Int) > 0) = true := by apply decide_eq_true; omega
            have gk3 : (1 : Int) ≤ (k : Int) := by omega
            have K0 := hide k0
            clear k0
            go_wp2_with fail
            refine (write_any w.heap.size w.heap.size (acc) ⟨#[44, 32]⟩ _ D2 hB2.size (by rw [comma_size]; omega)).mono ?_
            rintro e w3 ⟨rfl, D3, hb3, hk3⟩
            have hB3 := hB2.trans hb3
            replace K := hk3 _ _ _ K (by omega) (by decide)
            clear hk3 hb3 cK
            have cK := K.cell
            obtain ⟨acc2, ha2⟩ : ∃ l : Bs, l = acc ++ (⟨#[44, 32]⟩ : ByteArray).data.toList := ⟨_, rfl⟩
            rw [← ha2] at D3
            have hacc : acc2.length ≤ k * 106 + 2 := by rw [ha2, List.length_append, lsize, comma_size]; omega
            have HA2 := hide ha2
            clear ha2
            go_wp2_with fail
            refine (text_any x t.2 _ hxs).mono ?_
            rintro e w4 ⟨v, hv, rfl, hb4⟩
            have hB4 := hB3.trans (hb4.mono hB3.size)
            have D4 := D3.below hb4 (Nat.le_refl _)
            have hvs : v.size ≤ 104 := by rw [← lsize, hv]; exact textB_len _
            have HS := hide (show TX ts (k + 1) (acc2 ++ v.data.toList) by
              have := tx_step HT.out hlt (by rw [← HTT.out, ← HXL.out, ← tagOk_L]; exact HO.out)
              rw [← HTT.out] at this
              have e : (k == 0) = false := by have := K0.out; simp; omega
              rw [e] at this
              rw [HXL.out] at hv
              rw [show textB t = v.data.toList from hv.symm] at this
              rw [HA2.out]
              simpa using this)
            clear hv
            go_wp2_with fail
            refine (write_any w.heap.size w.heap.size (acc2) v _ D4 hB4.size (by omega)).mono ?_
            rintro e w5 ⟨rfl, D5, hb5, hk5⟩
            have hB5 := hB4.trans hb5
            have hlen5 : (acc2 ++ v.data.toList).length ≤ (k + 1) * 106 := by rw [List.length_append, lsize]; omega
            go_wp2_with fail
            go_roundw
            case rel => exact ⟨k + 1, _, by omega, by go_num, hlen5, D5, HS, hB5⟩
            case measure => simp [intOf] <;> omega
      · have HX := hide (tx_end HT.out (by omega))
        go_wp2_with fail
        refine (string_any w.heap.size w.heap.size acc _ D hbel.size).mono ?_
        rintro e w2 ⟨rfl, hb2⟩
        go_wp2_with fail
        go_ret
        exact ⟨⟨acc.toArray⟩, by rw [HX.out], rfl, hbel.trans hb2⟩
  · go_enter Tryd.func29, Tryd.ntmps29
    go_wp2_with fail
    go_ret
    exact ⟨_, rfl, rfl, Below.refl _ _⟩

end Go.Proofs.YtkmheoolekookaaDoor
