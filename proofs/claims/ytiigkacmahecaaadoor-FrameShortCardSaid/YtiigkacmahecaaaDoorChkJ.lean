/-
  Chunks: the reference's whole body.
-/
import Derived.Test.YtiigkacmahecaaaDoorChkI
namespace Go.Proofs.YtiigkacmahecaaaDoor
open Go.RowKit Go.Lib
set_option linter.unusedVariables false
set_option linter.unusedSimpArgs false

set_option maxHeartbeats 1000000 in
theorem rwhole_no (v : Value) (s : Int) (w : World) (h : s < 1) : Calls Tryd.prog 23 #[v, .int .i64 s] w (OwnNo w) := by
  go_enter Tryd.func23, Tryd.ntmps23
  go_wp2_with fail
  go_ret2
  exact ⟨rfl, rfl⟩

set_option maxRecDepth 100000 in
set_option maxHeartbeats 8000000 in
theorem rwhole_ok (v : Value) (bs : List UInt8) (s : Nat) (w : World) (hr : Byt w w.heap.size v bs) (hl : bs.length ≤ 10000) (hs0 : s < 9223372036854775807) : Calls Tryd.prog 23 #[v, .int .i64 ((s : Int) + 1)] w (OwnOk (wholeL s bs ++ lastL) w) := by
  obtain ⟨A, c, rfl, hc0, hc1⟩ := hr.form
  have R := hide hr
  clear hr
  go_enter Tryd.func23, Tryd.ntmps23
  go_wp2_with fail
  go_loopw [0, 6] (fun s0 s6 wr => ∃ (A : Option Addr) (c : Nat) (bb : List UInt8) (vo : Value) (oo : List UInt8), s0 = .slice A bb.length c ∧ vo = s6 ∧ bb.length ≤ c ∧ c ≤ 9223372036854775807 ∧ bb.length ≤ bs.length ∧ Byt wr w.heap.size (.slice A bb.length c) bb ∧ OwnB w.heap.size wr vo oo ∧ oo ++ wholeL s bb = wholeL s bs ∧ Below w.heap.size w wr) (fun s0 _ _ => sliceLen s0)
  case atStart => exact ⟨A, c, bs, _, [], rfl, rfl, hc0, hc1, Nat.le_refl _, R.out, OwnB.nil _ _, rfl, Below.refl _ _⟩
  case round =>
    obtain ⟨A, c, bb, vo, oo, rfl, rfl, hc, hc2, hbb, hbyt, hown, he, hbel⟩ := hrel
    have hw0 := whole_len s bs.length bs (Nat.le_refl _) (by omega)
    have hol : oo.length ≤ (wholeL s bs).length := by rw [← he]; simp
    have HOL := hide (Nat.le_trans hol hw0)
    have HBY := hide hbyt
    clear hol hw0 hbyt
    by_cases hs : s + 1 < bb.length
    · have hne : bb ≠ [] := fun e => by rw [e] at hs; simp at hs
      have hsz : (s : Int) + 1 < (bb.length : Int) := by omega
      have hcn2 : s + 1 < c := by omega
      obtain ⟨b0, off, rfl, hb0, _⟩ := HBY.out.some_ (by omega)
      rw [whole_cons hne] at he
      have HE := hide he
      have hpl := put_len (bb.take (s + 1)) (by simp; omega)
      have HPL := hide hpl
      have HB2 := hide (HBY.out.take0 (Nat.le_of_lt hs))
      clear he hne hpl
      go_wp2_with fail
      refine (rput_chunk _ (bb.take (s + 1)) _ (by exact HB2.out.mono hbel.size) (by simp; omega)).mono ?_
      rintro e w1 ⟨v1, rfl, hbp1, hbl1⟩
      have hown1 := hown.below hbl1 (Nat.le_refl _)
      have hbel1 := hbel.trans (hbl1.mono hbel.size)
      have HBP := hide hbp1
      clear hbp1
      have h63 : oo.length + (putL (bb.take (s + 1))).length ≤ 140737488355328 := by
        have h1 := HPL.out
        have h2 := HOL.out
        rw [List.length_take] at h1
        omega
      go_upto_region 6 with (at_builtin; refine wpList_appG rfl (.tmp 13) (.tmp 17) rfl w.heap.size vo oo rfl hown1 hbel1.size v1 (putL (bb.take (s + 1))) w1.heap.size rfl HBP.out h63 ?_; intro v2 w2 ho2 hg2)
      have hbel2 := hown1.belg hbel1 hg2 hbel1.size
      have HBZ := hide ((HBY.out.via hbel hbel2).cutS (k := s + 1) (m := bb.length) (by omega) (Nat.le_refl _) hcn2)
      go_wp2_with fail
      go_roundw
      case rel => exact ⟨some ⟨b0, off + (s + 1), none⟩, c - (s + 1), bb.drop (s + 1), v2, _, by simp, rfl, by simp; omega, by omega, by simp; omega, by simpa using HBZ.out, ho2, by rw [← HE.out]; simp, hbel2⟩
      case measure => simp [sliceLen]; omega
    · have hsz : ¬ (s : Int) + 1 < (bb.length : Int) := by omega
      rw [whole_one (by omega)] at he
      have HE := hide he
      have HPL := hide (put_len bb (by omega))
      clear he
      go_wp2_with fail
      refine (rput_chunk _ bb _ (by exact HBY.out.mono hbel.size) (by omega)).mono ?_
      rintro e w1 ⟨v1, rfl, hbp1, hbl1⟩
      have hown1 := hown.below hbl1 (Nat.le_refl _)
      have hbel1 := hbel.trans (hbl1.mono hbel.size)
      have HBP := hide hbp1
      clear hbp1
      have h63 : oo.length + (putL bb).length ≤ 140737488355328 := by
        have h1 := HPL.out
        have h2 := HOL.out
        omega
      have h64 : (oo ++ putL bb).length + lastL.length ≤ 140737488355328 := by
        have h1 := HPL.out
        have h2 := HOL.out
        simp [lastL]
        omega
      go_upto_region 8 with (at_builtin; refine wpList_appG rfl (.tmp 22) (.tmp 24) rfl w.heap.size vo oo rfl hown1 hbel1.size v1 (putL bb) w1.heap.size rfl HBP.out h63 ?_; intro v2 w2 ho2 hg2)
      have hbel2 := hown1.belg hbel1 hg2 hbel1.size
      go_wp2_with fail
      refine (rlast_chunk _).mono ?_
      rintro e w3 ⟨v3, rfl, hb3, hbl3⟩
      have hown3 := ho2.below hbl3 (Nat.le_refl _)
      have hbel3 := hbel2.trans (hbl3.mono hbel2.size)
      go_wp2_with (at_builtin; refine wpList_appG rfl (.tmp 26) (.tmp 27) rfl w.heap.size v2 _ rfl hown3 hbel3.size v3 lastL w3.heap.size rfl hb3 h64 ?_; intro v4 w4 ho4 hg4)
      go_ret2
      exact ⟨v4, rfl, by rw [← HE.out]; exact ho4, hown3.belg hbel3 hg4 hbel3.size⟩

end Go.Proofs.YtiigkacmahecaaaDoor
