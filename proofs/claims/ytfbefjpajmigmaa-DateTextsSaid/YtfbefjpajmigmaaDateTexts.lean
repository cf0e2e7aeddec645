/-
  Any tick has the text that the reference says, and is read from it: for every int64.
-/
import Derived.Test.YtfbefjpajmigmaaDateX
import Derived.Test.YtfbefjpajmigmaaLift
import Derived.Lib.SmallJoins
namespace Go.Proofs.Ytfbefjpajmigmaa.dateTexts
open Go.ChangeShapes Go.WideShapes Go.ChangeAt Go.RowKit DateM Go.Lib
set_option linter.unusedVariables false

set_option maxRecDepth 100000 in
set_option maxHeartbeats 1000000 in
theorem walk (a : Int) (w : World) : Calls Try.prog 8 #[.int .i64 a] w (TrueOk w) := by
  by_cases hr : a < 0 ∨ 253402300799 < a
  · go_enter Try.func8, Try.ntmps8
    go_wp2_with fail
    refine (wakes_any _).mono ?_
    rintro e w1 ⟨rfl, hb1⟩
    go_wp2_with fail
    refine (text_no _ _ hr).mono ?_
    rintro e w2 ⟨rfl, hb2⟩
    go_wp2_with fail
    refine (rtext_no _ _ hr).mono ?_
    rintro e w3 ⟨rfl, hb3⟩
    go_wp2
    go_ret
    exact ⟨ret_bool (by simp), (hb1.trans (hb2.mono hb1.size)).trans (hb3.mono (Nat.le_trans hb1.size hb2.size))⟩
  · go_enter Try.func8, Try.ntmps8
    go_wp2_with fail
    refine (wakes_any _).mono ?_
    rintro e w1 ⟨rfl, hb1⟩
    go_wp2_with fail
    refine (text_yes _ _ (by omega) (by omega)).mono ?_
    rintro e w2 ⟨y, m, d, k, s, ht, rfl, hb2⟩
    have HI := hide (show IsText a ⟨(textL y m d k s).toArray⟩ from ⟨y, m, d, k, s, ht, rfl⟩)
    clear ht
    generalize hS : (⟨(textL y m d k s).toArray⟩ : ByteArray) = S at *
    clear hS
    go_wp2_with fail
    refine (rtext_yes _ _ (by omega) (by omega)).mono ?_
    rintro e w3 ⟨y', m', d', k', s', ht', rfl, hb3⟩
    have e1 : (⟨(textL y' m' d' k' s').toArray⟩ : ByteArray) = S := IsText.uniq ⟨y', m', d', k', s', ht', rfl⟩ HI.out
    clear ht'
    rw [e1]
    clear e1
    have hz := (parse_says HI.out).1
    have HZ := hide hz
    clear hz
    go_wp2_with fail
    refine (parse_any S _ (by rw [HZ.out]; omega)).mono ?_
    rintro e w4 (⟨t, ht1, ht2, ht3, rfl, hb4⟩ | ⟨hn, _, _⟩)
    · obtain rfl : t = a := ht3.inj HI.out
      clear ht3
      go_wp2
      go_ret
      exact ⟨ret_bool (by simp), ((hb1.trans (hb2.mono hb1.size)).trans (hb3.mono (Nat.le_trans hb1.size hb2.size))).trans (hb4.mono (Nat.le_trans (Nat.le_trans hb1.size hb2.size) hb3.size))⟩
    · exact absurd HI.out (hn _)

theorem ps : ∀ t ∈ Try.f8.params.toList, Try.prog.readableRec t = true ∧ t < Try.prog.types.size := by
  rw [Try.params8]
  intro t ht
  obtain rfl : t = _ := by simpa using ht
  exact ⟨by kernel_rfl, of_decide_eq_true (by kernel_rfl)⟩

set_option maxRecDepth 100000 in
theorem lifted (os : Os) (started : os.Started) (H : Type) (enc : TypeId × Value → H) :
    ReturnsInHanded {} Try.checked os 8 .any (Rows.dateTextsSpec.pre6 enc Try.prog Try.f8 Rows.dateTextsRow.domain false) (Rows.dateTextsSpec.post enc Try.prog Try.f8 false true false false) := by
  refine returnsInHanded_of_change (C := Try.checked) law_own started (by kernel_rfl) Try.func8
    (ChangeSpec.witness6 (enc := enc) (C := Try.checked) false ⟨#[], #[.int .i64 0], []⟩ 8 (by kernel_rfl) (by kernel_rfl) (by kernel_rfl) (by kernel_rfl)) ?_
  intro W base args ds gs before hval0 hW hcnd _
  have hval : ∀ (j : Nat) t v, Try.f8.params[j]? = some t → args[j]? = some v → Value.okWide Try.prog W .any base t v := hval0
  have hW' := hW
  have hlt : ∀ p ∈ before, p.block < W.heap.size := fun p hp => hW.lt p hp
  obtain ⟨p, q, hA0, hV, rfl, hfz, hnd⟩ := hW
  have hA : DataW.TrodAll enc Try.prog W 0 (fun _ => true) true Try.f8.params.toList args.toList ds p := hA0
  rw [Try.params8] at hA hval
  obtain ⟨v0, vs0, d0, ds0, p0, q0, hargs, rfl, rfl, h0, r0⟩ := trodAll_cons hA
  obtain ⟨rfl, rfl, rfl⟩ := trodAll_nil r0
  obtain rfl : args = #[v0] := by cases args; simp_all
  obtain ⟨rfl, rfl⟩ := trodVars_none hV
  obtain ⟨a0, rfl, rfl, rfl, w0⟩ := open_int Try.underlying2 (hval 0 2 v0 rfl rfl) h0
  clear hA0 hval0
  refine (walk a0 W).mono fun e W' ⟨he, hb⟩ => ?_
  subst he
  exact ⟨_, rfl, law_close hW' rfl rfl rfl ps hb⟩

theorem proved : Rows.DateTextsSaid :=
  OpenClaim.holds_of_wide 8 Try.f8 rfl rfl rfl rfl rfl rfl rfl ⟨rfl, rfl, rfl, rfl, rfl⟩ rfl rfl rfl rfl rfl (by kernel_rfl) Try.func8 (by kernel_rfl)
    (of_decide_eq_true (by kernel_rfl)) (by unfold Func.isWrapper; first | (rw [if_pos (by decide +kernel)]; kernel_rfl) | (rw [if_neg (by decide +kernel)]; exact ⟨rfl, rfl⟩))
    (fun os started H enc _ => lifted os started H enc)
#print axioms proved
end Go.Proofs.Ytfbefjpajmigmaa.dateTexts
