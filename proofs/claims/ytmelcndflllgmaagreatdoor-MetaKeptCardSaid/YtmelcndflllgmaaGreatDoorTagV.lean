/-
  Tags' texts: both walks; a list's text: the reference's.
-/
import Derived.Test.YtmelcndflllgmaaGreatDoorTagS
namespace Go.Proofs.YtmelcndflllgmaaGreatDoor
open Go.RowKit
set_option linter.unusedVariables false
set_option linter.unusedSimpArgs false

theorem textB_no {x : ByteArray} {wk : Bool} (h : tagOk x = false) : (⟨#[]⟩ : ByteArray).data.toList = textB (x.data.toList, wk) := by
  unfold textB; rw [if_neg (by rw [← tagOk_L, h]; simp)]
theorem textB_strong {x : ByteArray} (h : tagOk x = true) : ((⟨#[34]⟩ ++ x) ++ ⟨#[34]⟩ : ByteArray).data.toList = textB (x.data.toList, false) := by
  unfold textB; rw [if_pos (by rw [← tagOk_L, h])]; simp [ByteArray.data_append]
theorem textB_weak {x : ByteArray} (h : tagOk x = true) : (⟨#[87, 47]⟩ ++ ((⟨#[34]⟩ ++ x) ++ ⟨#[34]⟩) : ByteArray).data.toList = textB (x.data.toList, true) := by
  unfold textB; rw [if_pos (by rw [← tagOk_L, h])]; simp [ByteArray.data_append]
theorem textB_weak' {x : ByteArray} (h : tagOk x = true) : ((⟨#[87, 47, 34]⟩ ++ x) ++ ⟨#[34]⟩ : ByteArray).data.toList = textB (x.data.toList, true) := by
  unfold textB; rw [if_pos (by rw [← tagOk_L, h])]; simp [ByteArray.data_append]
theorem tagOk_len {x : ByteArray} (h : tagOk x = true) : x.size ≤ 100 := by
  unfold tagOk at h; simp at h; exact h.1.2
theorem textB_len (t : TagL) : (textB t).length ≤ 104 := by
  unfold textB
  by_cases h : tagOkL t.1 = true
  · rw [if_pos h]
    have : t.1.length ≤ 100 := by unfold tagOkL at h; simp at h; exact h.1.2
    cases t.2 <;> simp <;> omega
  · rw [if_neg h]; simp

set_option maxHeartbeats 1000000 in
theorem text_any (x : ByteArray) (wk : Bool) (w : World) (hx : x.size ≤ 9223372036854775807) : Calls Tryz.prog 39 #[.agg #[.string x, .bool wk]] w (StrOk (textB (x.data.toList, wk)) w) := by
  go_enter Tryz.func39, Tryz.ntmps39
  go_wp2_with fail
  obtain ⟨w1, hw1⟩ : ∃ w1 : World, w1 = (w).alloc (.cells #[.string x, .bool wk] 26) := ⟨_, rfl⟩
  rw [← hw1]
  have hB1 : Below w.heap.size w w1 := by rw [hw1]; exact ((Below.refl _ _).alloc (Nat.le_refl _) _)
  have R : Blk w1 (w.heap.size) 26 #[.string x, .bool wk] := by rw [hw1]; exact (Blk.new _ _ _)
  clear hw1
  have cR := R.cell
  refine (tag_right x wk _ hx).mono ?_
  rintro e w2 ⟨rfl, hb2⟩
  have hB2 := hB1.trans (hb2.mono hB1.size)
  replace R := R.below hb2 R.lt
  clear cR hb2
  have cR := R.cell
  cases ho : tagOk x
  · have HO := hide ho
    clear ho
    go_wp2_with fail
    go_ret
    exact ⟨_, textB_no HO.out, rfl, hB2⟩
  · have HO := hide ho
    have hz := tagOk_len ho
    clear ho
    cases wk
    · go_wp2_with fail
      go_ret
      exact ⟨_, textB_strong HO.out, rfl, hB2⟩
    · go_wp2_with fail
      go_ret
      exact ⟨_, textB_weak HO.out, rfl, hB2⟩

set_option maxHeartbeats 1000000 in
theorem rtext_any (x : ByteArray) (wk : Bool) (w : World) (hx : x.size ≤ 9223372036854775807) : Calls Tryz.prog 49 #[.agg #[.string x, .bool wk]] w (StrOk (textB (x.data.toList, wk)) w) := by
  go_enter Tryz.func49, Tryz.ntmps49
  go_wp2_with fail
  obtain ⟨w1, hw1⟩ : ∃ w1 : World, w1 = (w).alloc (.cells #[.string x, .bool wk] 26) := ⟨_, rfl⟩
  rw [← hw1]
  have hB1 : Below w.heap.size w w1 := by rw [hw1]; exact ((Below.refl _ _).alloc (Nat.le_refl _) _)
  have R : Blk w1 (w.heap.size) 26 #[.string x, .bool wk] := by rw [hw1]; exact (Blk.new _ _ _)
  clear hw1
  have cR := R.cell
  refine (rtag_right x wk _ hx).mono ?_
  rintro e w2 ⟨rfl, hb2⟩
  have hB2 := hB1.trans (hb2.mono hB1.size)
  replace R := R.below hb2 R.lt
  clear cR hb2
  have cR := R.cell
  cases ho : tagOk x
  · have HO := hide ho
    clear ho
    go_wp2_with fail
    go_ret
    exact ⟨_, textB_no HO.out, rfl, hB2⟩
  · have HO := hide ho
    have hz := tagOk_len ho
    clear ho
    cases wk
    · go_wp2_with fail
      go_ret
      exact ⟨_, textB_strong HO.out, rfl, hB2⟩
    · go_wp2_with fail
      go_ret
      exact ⟨_, textB_weak' HO.out, rfl, hB2⟩

/-- The text so far, of the first k. -/
def TX (ts : List TagL) (k : Nat) (acc : Bs) : Prop := textsAux true ts = (textsAux (k == 0) (ts.drop k)).map (acc ++ ·)
theorem tx_zero (ts : List TagL) : TX ts 0 [] := by unfold TX; simp
theorem tx_no {ts : List TagL} {k : Nat} {acc : Bs} (h : TX ts k acc) (hk : k < ts.length) (ht : tagOkL ts[k].1 = false) : textsB ts false = [] := by
  unfold TX at h
  unfold textsB
  rw [List.drop_eq_getElem_cons hk, textsAux, if_neg (by rw [ht]; simp)] at h
  rw [h]; rfl
theorem tx_step {ts : List TagL} {k : Nat} {acc : Bs} (h : TX ts k acc) (hk : k < ts.length) (ht : tagOkL ts[k].1 = true) : TX ts (k + 1) (acc ++ ((if (k == 0) = true then [] else [44, 32]) ++ textB ts[k])) := by
  unfold TX at h ⊢
  rw [List.drop_eq_getElem_cons hk, textsAux, if_pos ht] at h
  rw [h, Option.map_map]
  congr 1
  funext r
  simp
theorem tx_end {ts : List TagL} {k : Nat} {acc : Bs} (h : TX ts k acc) (hk : ts.length ≤ k) : textsB ts false = acc := by
  unfold TX at h
  rw [List.drop_eq_nil_of_le hk, textsAux] at h
  unfold textsB
  rw [h]; simp
theorem texts_any (ts : List TagL) : textsB ts true = [42] := rfl

end Go.Proofs.YtmelcndflllgmaaGreatDoor
