/-
  Chunks: a whole body.
-/
import Derived.Test.YtiigkacmahecaaaDoorChkG
namespace Go.Proofs.YtiigkacmahecaaaDoor
open Go.RowKit Go.Lib
set_option linter.unusedVariables false
set_option linter.unusedSimpArgs false

def OwnOk (bs : List UInt8) (w : World) (e : Ending) (w' : World) : Prop := ∃ v', e = .returned (.tuple #[v', .int .i64 0]) ∧ OwnB w.heap.size w' v' bs ∧ Below w.heap.size w w'
def OwnNo (w : World) (e : Ending) (w' : World) : Prop := e = .returned (.tuple #[.slice none 0 0, .int .i64 1]) ∧ w = w'

set_option maxHeartbeats 1000000 in
theorem whole_no (v : Value) (s : Int) (w : World) (h : s < 1) : Calls Tryd.prog 25 #[v, .int .i64 s] w (OwnNo w) := by
  go_enter Tryd.func25, Tryd.ntmps25
  go_wp2_with fail
  go_ret2
  exact ⟨rfl, rfl⟩

set_option maxRecDepth 100000 in
set_option maxHeartbeats 8000000 in
theorem whole_ok (v : Value) (bs : List UInt8) (s : Nat) (w : World) (hT : Tab w) (hr : Byt w w.heap.size v bs) (hl : bs.length ≤ 10000) (hs0 : s < 9223372036854775807) : Calls Tryd.prog 25 #[v, .int .i64 ((s : Int) + 1)] w (OwnOk (wholeL s bs ++ lastL) w) := by
  obtain ⟨A, c, rfl, hc0, hc1⟩ := hr.form
  have R := hide hr
  have HT := hide hT
  clear hr hT
  go_enter Tryd.func25, Tryd.ntmps25
  go_wp2_with fail
  go_loopw [0, 6, 7] (fun s0 s6 _ wr => ∃ (A : Option Addr) (c : Nat) (bb : List UInt8) (vo : Value) (oo : List UInt8), s0 = .slice A bb.length c ∧ vo = s6 ∧ bb.length ≤ c ∧ c ≤ 9223372036854775807 ∧ bb.length ≤ bs.length ∧ Byt wr w.heap.size (.slice A bb.length c) bb ∧ OwnB w.heap.size wr vo oo ∧ oo ++ wholeL s bb = wholeL s bs ∧ Below w.heap.size w wr) (fun s0 _ _ _ => sliceLen s0)
  case atStart => exact ⟨A, c, bs, _, [], rfl, rfl, hc0, hc1, Nat.le_refl _, R.out, OwnB.nil _ _, rfl, Below.refl _ _⟩
  case round =>
    obtain ⟨A, c, bb, vo, oo, rfl, rfl, hc, hc2, hbb, hbyt, hown, he, hbel⟩ := hrel
    have hw0 := whole_len s bs.length bs (Nat.le_refl _) (by omega)
    have hol : oo.length ≤ (wholeL s bs).length := by rw [← he]; simp
    by_cases hp : bb.length = 0
    · obtain rfl : bb = [] := List.eq_nil_of_length_eq_zero hp
      rw [whole_nil, List.append_nil] at he
      have HE := hide he
      clear he hp
      go_wp2_with fail
      refine (last_chunk _).mono ?_
      rintro e w1 ⟨v1, rfl, hb1, hbl1⟩
      have hown1 := hown.below hbl1 (Nat.le_refl _)
      have hbel1 := hbel.trans (hbl1.mono hbel.size)
      go_wp2_with (at_builtin; refine wpList_appG rfl (.tmp 26) (.tmp 27) rfl w.heap.size vo oo rfl hown1 hbel1.size v1 lastL w1.heap.size rfl hb1 (by simp [lastL]; omega) ?_; intro v2 w2 ho2 hg2)
      go_ret2
      exact ⟨v2, rfl, by rw [← HE.out]; exact ho2, hown1.belg hbel1 hg2 hbel1.size⟩
    · have hne : bb ≠ [] := fun e => hp (by rw [e]; rfl)
      have hbl := List.length_pos_iff.2 hne
      have hz : (0 : Int) < (bb.length : Int) := by omega
      obtain ⟨b0, off, rfl, hb0, _⟩ := hbyt.some_ hbl
      rw [whole_cons hne] at he
      have HE := hide he
      have HBY := hide hbyt
      have HOL := hide (Nat.le_trans hol hw0)
      have hpl := put_len (bb.take (s + 1)) (by simp; omega)
      have HPL := hide hpl
      clear he hne hp hpl hol hw0 hbyt
      by_cases hs : s + 1 ≤ bb.length
      · have hsz : (s : Int) + 1 ≤ (bb.length : Int) := by omega
        have hby2 := HBY.out.take0 hs
        have HB2 := hide hby2
        clear hby2
        go_upto_region 6 with fail
        go_wp2_with fail
        refine (put_chunk _ (bb.take (s + 1)) _ (HT.out.below hbel) (by exact HB2.out.mono hbel.size) (by simp; omega)).mono ?_
        rintro e w1 ⟨v1, rfl, ho1, hbl1⟩
        have hown1 := hown.below hbl1 (Nat.le_refl _)
        have hbel1 := hbel.trans (hbl1.mono hbel.size)
        have hbp1 : Byt w1 w1.heap.size v1 (putL (bb.take (s + 1))) := ho1.byt (by have := HPL.out; simp at this ⊢; omega)
        have HBP := hide hbp1
        clear hbp1
        have h63 : oo.length + (putL (bb.take (s + 1))).length ≤ 140737488355328 := by
          have h1 := HPL.out
          have h2 := HOL.out
          rw [List.length_take] at h1
          omega
        go_upto_region 7 with (at_builtin; refine wpList_appG rfl (.tmp 17) (.tmp 21) rfl w.heap.size vo oo rfl hown1 hbel1.size v1 (putL (bb.take (s + 1))) w1.heap.size rfl HBP.out h63 ?_; intro v2 w2 ho2 hg2)
        have hbel2 := hown1.belg hbel1 hg2 hbel1.size
        by_cases hcn : c = s + 1
        · have hcn1 : ((c : Int) = (s : Int) + 1) := by omega
          have HD := hide (show bb.drop (s + 1) = [] from List.drop_of_length_le (by omega))
          clear hcn1
          subst hcn
          go_wp2_with fail
          go_roundw
          case rel => exact ⟨_, 0, [], v2, _, rfl, rfl, by simp, by omega, by simp, Byt.empty _ _ _ _ (by omega), ho2, by rw [← HE.out, HD.out]; simp [whole_nil], hbel2⟩
          case measure => simp [sliceLen]; omega
        · have hcn2 : s + 1 < c := by omega
          have HBZ := hide ((HBY.out.via hbel hbel2).cutS (k := s + 1) (m := bb.length) (by omega) (Nat.le_refl _) hcn2)
          go_wp2_with fail
          go_roundw
          case rel => exact ⟨some ⟨b0, off + (s + 1), none⟩, c - (s + 1), bb.drop (s + 1), v2, _, by simp, rfl, by simp; omega, by omega, by simp; omega, by simpa using HBZ.out, ho2, by rw [← HE.out]; simp, hbel2⟩
          case measure => simp [sliceLen]; omega
      · have hsz : ¬ (s : Int) + 1 ≤ (bb.length : Int) := by omega
        have htk : bb.take (s + 1) = bb := List.take_of_length_le (by omega)
        rw [htk] at HE HPL
        have HTK := hide htk
        clear htk
        go_upto_region 6 with fail
        go_wp2_with fail
        refine (put_chunk _ bb _ (HT.out.below hbel) (by exact HBY.out.mono hbel.size) (by omega)).mono ?_
        rintro e w1 ⟨v1, rfl, ho1, hbl1⟩
        have hown1 := hown.below hbl1 (Nat.le_refl _)
        have hbel1 := hbel.trans (hbl1.mono hbel.size)
        have hbp1 : Byt w1 w1.heap.size v1 (putL bb) := ho1.byt (by have := HPL.out; omega)
        have HBP := hide hbp1
        clear hbp1
        have h63 : oo.length + (putL bb).length ≤ 140737488355328 := by
          have h1 := HPL.out
          have h2 := HOL.out
          omega
        go_upto_region 7 with (at_builtin; refine wpList_appG rfl (.tmp 17) (.tmp 21) rfl w.heap.size vo oo rfl hown1 hbel1.size v1 (putL bb) w1.heap.size rfl HBP.out h63 ?_; intro v2 w2 ho2 hg2)
        have hbel2 := hown1.belg hbel1 hg2 hbel1.size
        have HD := hide (show bb.drop (s + 1) = [] from List.drop_of_length_le (by omega))
        by_cases hcn : c = bb.length
        · subst hcn
          go_wp2_with fail
          go_roundw
          case rel => exact ⟨_, 0, [], v2, _, rfl, rfl, by simp, by omega, by simp, Byt.empty _ _ _ _ (by omega), ho2, by rw [← HE.out, HD.out]; simp [whole_nil], hbel2⟩
          case measure => simp [sliceLen]; omega
        · have hcn2 : bb.length < c := by omega
          go_wp2_with fail
          go_roundw
          case rel => exact ⟨some ⟨b0, off + bb.length, none⟩, c - bb.length, [], v2, _, by simp, rfl, by simp, by omega, by simp, Byt.empty _ _ _ _ (by omega), ho2, by rw [← HE.out, HD.out]; simp [whole_nil], hbel2⟩
          case measure => simp [sliceLen]; omega

end Go.Proofs.YtiigkacmahecaaaDoor
