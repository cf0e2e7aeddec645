/-
  Tags' texts: both walks; a list's text: the reference's.
-/
import Derived.Test.YtkmheoolekookaaDoorTagS
namespace Go.Proofs.YtkmheoolekookaaDoor
open Go.RowKit
set_option linter.unusedVariables false
set_option linter.unusedSimpArgs false

theorem textB_no {x : ByteArray} {wk : Bool} (h : tagOk x = false) : (⟨#[]⟩ : ByteArray).data.toList = textB (x.data.toList, wk) := by
  unfold textB; rw [if_neg (by rw [← tagOk_L, h]; simp)]
theorem textB_strong {x : ByteArray} (h : tagOk x = true) : ((⟨#[34]⟩ ++ x) ++ ⟨#[34]⟩ : ByteArray).data.toList = textB (x.data.toList, false) := by
  unfold textB; rw [if_pos (by rw [← tagOk_L, h])]; simp [ByteArray.data_append]
theorem textB_weak {x : ByteArray} (h : tagOk x = true) : (⟨#[87, 47]⟩ ++ ((⟨#[34]⟩ ++ x) ++ ⟨#[34]⟩) : ByteArray).data.toList = textB (x.data.toList, true) := by
  unfold textB; rw [if_pos (by rw [← tagOk_L, h])]; simp [ByteArray.data_append]
theorem textB_weak' {x : ByteArray} (h : tagOk x = true) : ((⟨#[87, 47, 34]⟩ ++ x) ++ ⟨#[34]⟩ : ByteArray).data.toList = textB (x.data.toList, true) := by
  unfold textB; rw [if_pos (by rw [← tagOk_L, h])]; simp [ByteArray.data_append]
theorem tagOk_len {x : ByteArray} (h : tagOk x = true) : x.size ≤ 100 := by
  unfold tagOk at h; simp at h; exact h.1.2
theorem textB_len (t : TagL) : (textB t).length ≤ 104 := by
  unfold textB
  by_cases h : tagOkL t.1 = true
  · rw [if_pos h]
    have : t.1.length ≤ 100 := by unfold tagOkL at h; simp at h; exact h.1.2
    cases t.2 <;> simp <;> omega
  · rw [if_neg h]; simp

set_option maxHeartbeats 1000000 in
theorem text_any (x : ByteArray) (wk : Bool) (w : World) (hx : x.size ≤ 9223372036854775807) : Calls Tryd.prog 31 #[.agg #[.string x, .bool wk]] w (StrOk (textB (x.data.toList, wk)) w) := by
  go_enter Tryd.func31, Tryd.ntmps31
  go_wp2_with fail
  obtain ⟨w1, hw1⟩ : ∃ w1 : World, w1 = (w).alloc (.cells #[.string x, .bool wk] 27) := ⟨_, rfl⟩
  rw [← hw1]
  have hB1 : Below w.heap.size w w1 := by rw [hw1]; exact ((Below.refl _ _).alloc (Nat.le_refl _) _)
  have R : Blk w1 (w.heap.size) 27 #[.string x, .bool wk] := by rw [hw1]; exact (Blk.new _ _ _)
  clear hw1
  have cR := R.cell
  refine (tag_right x wk _ hx).mono ?_
  rintro e w2 ⟨rfl, hb2⟩
  have hB2 := hB1.trans (hb2.mono hB1.size)
  replace R := R.below hb2 R.lt
  clear cR hb2
  have cR := R.cell
  cases ho : tagOk x
  · have HO := hide ho
    clear ho
    go_wp2_with fail
    go_ret
    exact ⟨_, textB_no HO.out, rfl, hB2⟩
  · have HO := hide ho
    have hz := tagOk_len ho
    clear ho
    cases wk
    · go_wp2_with fail
      go_ret
      exact ⟨_, textB_strong HO.out, rfl, hB2⟩
    · go_wp2_with fail
      go_ret
      exact ⟨_, textB_weak HO.out, rfl, hB2⟩

set_option maxHeartbeats 1000000 in
theorem rtext_any (x : ByteArray) (wk : Bool) (w : World) (hx : x.size ≤ 9223372036854775807) : Calls Tryd.prog 41 #[.agg #[.string x, .bool wk]] w (StrOk (textB (x.data.toList, wk)) w) := by
  go_enter Tryd.func41, Tryd.ntmps41
  go_wp2_with fail
  obtain ⟨w1, hw1⟩ : ∃ w1 : World, w1 = (w).alloc (.cells #[.string x, .bool wk] 27) := ⟨_, rfl⟩
  rw [← hw1]
  have hB1 : Below w.heap.size w w1 := by rw [hw1]; exact ((Below.refl _ _).alloc (Nat.le_refl _) _)
  have R : Blk w1 (w.heap.size) 27 #[.string x, .bool wk] := by rw [hw1]; exact (Blk.new _ _ _)
  clear hw1
  have cR := R.cell
  refine (rtag_right x wk _ hx).mono ?_
  rintro e w2 ⟨rfl, hb2⟩
  have hB2 := hB1.trans (hb2.mono hB1.size)
  replace R := R.below hb2 R.lt
  clear cR hb2
  have cR := R.cell
  cases ho : tagOk x
  · have HO := hide ho
    clear ho
    go_wp2_with fail
    go_ret
    exact ⟨_, textB_no HO.out, rfl, hB2⟩
  · have HO := hide ho
    have hz := tagOk_len ho
    clear ho
    cases wk
    · go_wp2_with fail
      go_ret
      exact ⟨_, textB_strong HO.out, rfl, hB2⟩
    · go_wp2_with fail
      go_ret
      exact ⟨_, textB_weak' HO.out, rfl, hB2⟩

/-- The text so far, of the first k. -/
def TX (ts : List TagL) (k : Nat) (acc : Bs) : Prop := textsAux true ts = (textsAux (k == 0) (ts.drop k)).map (acc ++ ·)
theorem tx_zero (ts : List TagL) : TX ts 0 [] := by unfold TX; simp
theorem tx_no {ts : List TagL} {k : Nat} {acc : Bs} (h : TX ts k acc) (hk : k < ts.length) (ht : tagOkL ts[k].1 = false) : textsB ts false = [] := by
  unfold TX at h
  unfold textsB
  rw [List.drop_eq_getElem_cons hk, textsAux, if_neg (by rw [ht]; simp)] at h
  rw [h]; rfl
theorem tx_step {ts : List TagL} {k : Nat} {acc : Bs} (h : TX ts k acc) (hk : k < ts.length) (ht : tagOkL ts[k].1 = true) : TX ts (k + 1) (acc ++ ((if (k == 0) = true then [] else [44, 32]) ++ textB ts[k])) := by
  unfold TX at h ⊢
  rw [List.drop_eq_getElem_cons hk, textsAux, if_pos ht] at h
  rw [h, Option.map_map]
  congr 1
  funext r
  simp
theorem tx_end {ts : List TagL} {k : Nat} {acc : Bs} (h : TX ts k acc) (hk : ts.length ≤ k) : textsB ts false = acc := by
  unfold TX at h
  rw [List.drop_eq_nil_of_le hk, textsAux] at h
  unfold textsB
  rw [h]; simp
theorem texts_any (ts : List TagL) : textsB ts true = [42] := rfl

set_option maxHeartbeats 4000000 in
theorem rtexts_any (v : Value) (ts : List TagL) (any : Bool) (w : World) (hr : RdL LT w w.heap.size v ts) (hz : ∀ t ∈ ts, t.1.length ≤ 9223372036854775807) (hn : ts.length ≤ 1000000) : Calls Tryd.prog 39 #[v, .bool any] w (StrOk (textsB ts any) w) := by
  obtain ⟨A, c, rfl, hlc, hcm⟩ := hr.form
  have hlen := hr.len
  cases any
  · go_enter Tryd.func39, Tryd.ntmps39
    go_wp2_with fail
    go_loopw [5, 6] (fun c5 c6 wr => ∃ (k : Nat) (u : ByteArray), k ≤ ts.length ∧ c6 = .int .i64 (k : Int) ∧ c5 = .string u ∧ u.size ≤ k * 106 ∧ Hid (TX ts k u.data.toList) ∧ Below w.heap.size w wr) (fun c5 c6 _ => ts.length - (intOf c6).toNat)
    case atStart => exact ⟨0, ⟨#[]⟩, Nat.zero_le _, rfl, rfl, Nat.zero_le _, tx_zero _, Below.refl _ _⟩
    case round =>
      obtain ⟨k, u, hk, rfl, rfl, hus, HT, hbel⟩ := hrel
      by_cases hlt : k < ts.length
      · obtain ⟨b0, off, hA, hb0, hcell⟩ := hr.at_ k hlt
        subst hA
        have hc0 : wr.cell? ⟨b0, off + k * 2, none⟩ = some (.string ⟨ts[k].1.toArray⟩) := by rw [hbel.cell (by show b0 < _; omega)]; simpa [LT] using hcell 0 _ rfl
        have hc1 : wr.cell? ⟨b0, off + k * 2 + 1, none⟩ = some (.bool ts[k].2) := by rw [hbel.cell (by show b0 < _; omega)]; simpa [LT] using hcell 1 _ rfl
        clear hcell
        obtain ⟨t, ht⟩ : ∃ t, t = ts[k] := ⟨_, rfl⟩
        rw [← ht] at hc0 hc1
        obtain ⟨x, hx⟩ : ∃ x : ByteArray, x = ⟨t.1.toArray⟩ := ⟨_, rfl⟩
        rw [← hx] at hc0
        have hxl : x.data.toList = t.1 := by rw [hx]
        have hxs : x.size ≤ 9223372036854775807 := by rw [← lsize, hxl, ht]; exact hz _ (List.getElem_mem hlt)
        clear hx
        cases ho : tagOk x
        · have HX := hide (tx_no HT.out hlt (by rw [← ht, ← hxl, ← tagOk_L]; exact ho))
          have HO := hide ho
          have HTT := hide ht
          have HXL := hide hxl
          clear ho ht hxl
          go_wp2_with fail
          refine (rtag_right x t.2 _ hxs).mono ?_
          rintro e w2 ⟨rfl, hb2⟩
          rw [HO.out]
          go_wp2_with fail
          go_ret
          exact ⟨_, HX.out.symm, rfl, hbel.trans (hb2.mono hbel.size)⟩
        · have HO := hide ho
          have HTT := hide ht
          have HXL := hide hxl
          clear ho ht hxl
          go_wp2_with fail
          refine (rtag_right x t.2 _ hxs).mono ?_
          rintro e w2 ⟨rfl, hb2⟩
          rw [HO.out]
          have hB2 := hbel.trans (hb2.mono hbel.size)
          replace hc0 := cell_later'' hb2 hc0
          replace hc1 := cell_later'' hb2 hc1
          by_cases k0 : k = 0
          · have gk : decide ((k : Int) > 0) = false := by apply decide_eq_false; omega
            have gk3 : (k : Int) < 1 := by omega
            have K0 := hide k0
            clear k0
            go_wp2_with fail
            refine (rtext_any x t.2 _ hxs).mono ?_
            rintro e w3 ⟨v, hv, rfl, hb3⟩
            have hB3 := hB2.trans (hb3.mono hB2.size)
            have hvs : v.size ≤ 104 := by rw [← lsize, hv]; exact textB_len _
            have HS := hide (show TX ts (k + 1) (u ++ v : ByteArray).data.toList by
              have := tx_step HT.out hlt (by rw [← HTT.out, ← HXL.out, ← tagOk_L]; exact HO.out)
              rw [← HTT.out] at this
              have e : (k == 0) = true := by have := K0.out; simp; omega
              rw [e] at this
              rw [HXL.out] at hv
              rw [show textB t = v.data.toList from hv.symm] at this
              simpa [ByteArray.data_append] using this)
            have hus2 : (u ++ v : ByteArray).size ≤ (k + 1) * 106 := by
              have h2 : (⟨#[44, 32]⟩ : ByteArray).size = 2 := rfl
              simp only [ByteArray.size_append]; omega
            obtain ⟨z, hz2⟩ : ∃ z : ByteArray, z = u ++ v := ⟨_, rfl⟩
            rw [← hz2] at HS hus2
            have HZ := hide hz2
            clear hz2 hv
            go_wp2_with fail
            rw [← HZ.out]
            go_roundw
            case rel => exact ⟨k + 1, z, by omega, by go_num, rfl, hus2, HS, hB3⟩
            case measure => simp [intOf] <;> omega
          · have gk : decide ((k : Int) > 0) = true := by apply decide_eq_true; omega
            have gk3 : (1 : Int) ≤ (k : Int) := by omega
            have K0 := hide k0
            clear k0
            go_wp2_with fail
            refine (rtext_any x t.2 _ hxs).mono ?_
            rintro e w3 ⟨v, hv, rfl, hb3⟩
            have hB3 := hB2.trans (hb3.mono hB2.size)
            have hvs : v.size ≤ 104 := by rw [← lsize, hv]; exact textB_len _
            have HS := hide (show TX ts (k + 1) ((u ++ ⟨#[44, 32]⟩) ++ v : ByteArray).data.toList by
              have := tx_step HT.out hlt (by rw [← HTT.out, ← HXL.out, ← tagOk_L]; exact HO.out)
              rw [← HTT.out] at this
              have e : (k == 0) = false := by have := K0.out; simp; omega
              rw [e] at this
              rw [HXL.out] at hv
              rw [show textB t = v.data.toList from hv.symm] at this
              simpa [ByteArray.data_append] using this)
            have hus2 : ((u ++ ⟨#[44, 32]⟩) ++ v : ByteArray).size ≤ (k + 1) * 106 := by
              have h2 : (⟨#[44, 32]⟩ : ByteArray).size = 2 := rfl
              simp only [ByteArray.size_append]; omega
            obtain ⟨z, hz2⟩ : ∃ z : ByteArray, z = (u ++ ⟨#[44, 32]⟩) ++ v := ⟨_, rfl⟩
            rw [← hz2] at HS hus2
            have HZ := hide hz2
            clear hz2 hv
            go_wp2_with fail
            rw [← HZ.out]
            go_roundw
            case rel => exact ⟨k + 1, z, by omega, by go_num, rfl, hus2, HS, hB3⟩
            case measure => simp [intOf] <;> omega
      · have HX := hide (tx_end HT.out (by omega))
        go_wp2_with fail
        go_ret
        exact ⟨_, HX.out.symm, rfl, hbel⟩
  · go_enter Tryd.func39, Tryd.ntmps39
    go_wp2_with fail
    go_ret
    exact ⟨_, rfl, rfl, Below.refl _ _⟩

end Go.Proofs.YtkmheoolekookaaDoor
