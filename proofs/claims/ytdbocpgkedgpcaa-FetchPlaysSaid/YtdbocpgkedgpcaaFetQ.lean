/-
  What a reply that is New brings.
-/
import Derived.Test.YtdbocpgkedgpcaaFetD
namespace Go.Proofs.Ytdbocpgkedgpcaa
open Go.RowKit
set_option linter.unusedVariables false
set_option linter.unusedSimpArgs false

theorem read_one {ob : ByteArray} {fa fb : Int} {f n : Tag} {st : Int} {mt : ByteArray} {mk : Bool} {md ln hv fr wh er : Int} {ks : List ByteArray} {tn : ByteArray} {sa sb ag : Int} (h : readV ob fa fb f n st mt mk md ln hv fr wh er ks tn sa sb ag = 1) :
    fRight ob fa fb f n = true ∧ (st = 200 ∨ st = 206) ∧ bringsB fa fb f st mt mk md ln hv fr wh er ks tn sa sb = true := by
  unfold readV at h
  by_cases h0 : (fRight ob fa fb f n && (decide (0 ≤ ag) && decide (ag ≤ 1099511627776))) = true
  · rw [if_pos h0] at h
    have hf : fRight ob fa fb f n = true := by rw [Bool.and_eq_true] at h0; exact h0.1
    unfold statV at h
    by_cases h1 : st = 200
    · rw [if_pos h1] at h
      by_cases hb : bringsB fa fb f st mt mk md ln hv fr wh er ks tn sa sb = true
      · exact ⟨hf, .inl h1, hb⟩
      · rw [if_neg hb] at h; exact absurd h (by decide)
    · rw [if_neg h1] at h
      by_cases h2 : st = 206
      · rw [if_pos h2] at h
        by_cases hb : bringsB fa fb f st mt mk md ln hv fr wh er ks tn sa sb = true
        · exact ⟨hf, .inr h2, hb⟩
        · rw [if_neg hb] at h; exact absurd h (by decide)
      · rw [if_neg h2] at h
        exfalso
        repeat' split at h
        all_goals exact absurd h (by decide)
  · rw [if_neg h0] at h; exact absurd h (by decide)
theorem brings_tag {fa fb : Int} {f : Tag} {st : Int} {mt : ByteArray} {mk : Bool} {md ln hv fr wh er : Int} {ks : List ByteArray} {tn : ByteArray} {sa sb : Int} (h : bringsB fa fb f st mt mk md ln hv fr wh er ks tn sa sb = true) (hf : someTag f = true) :
    mk = false ∧ (mt.toList == f.1.toList) = true := by
  unfold bringsB strongB weakB at h
  rw [hf] at h
  simp at h
  obtain ⟨_, ⟨⟨h1, _⟩, _, h2⟩, _⟩ := h
  exact ⟨h1, by simpa using h2⟩
theorem brings_200 {fa fb : Int} {f : Tag} {st : Int} {mt : ByteArray} {mk : Bool} {md ln hv fr wh er : Int} {ks : List ByteArray} {tn : ByteArray} {sa sb : Int} (h : bringsB fa fb f st mt mk md ln hv fr wh er ks tn sa sb = true) (hs : st = 200) :
    sa = 0 ∧ sb = endOf ln ∧ -1 ≤ ln ∧ ln ≤ 1099511627776 := by
  unfold bringsB at h
  rw [if_pos hs] at h
  rw [Bool.and_eq_true, Bool.and_eq_true, Bool.and_eq_true] at h
  obtain ⟨h0, _, h1, h2⟩ := h
  have := meta_ln h0
  exact ⟨by simpa using h1, by simpa using h2, this.1, this.2⟩
theorem brings_206 {fa fb : Int} {f : Tag} {st : Int} {mt : ByteArray} {mk : Bool} {md ln hv fr wh er : Int} {ks : List ByteArray} {tn : ByteArray} {sa sb : Int} (h : bringsB fa fb f st mt mk md ln hv fr wh er ks tn sa sb = true) (hs : ¬ st = 200) :
    0 ≤ sa ∧ sa < sb ∧ sa = fa ∧ sb ≤ fb ∧ sb ≤ 4611686018427387904 := by
  unfold bringsB at h
  rw [if_neg hs] at h
  simp [spanOk] at h
  omega

end Go.Proofs.Ytdbocpgkedgpcaa
