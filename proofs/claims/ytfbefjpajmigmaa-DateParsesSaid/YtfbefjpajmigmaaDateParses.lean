/-
  Any text is a tick's, or none's, as the reference says; a text that is read is told again: for every text.
-/
import Derived.Test.YtfbefjpajmigmaaDateX
import Derived.Test.YtfbefjpajmigmaaLift
import Derived.Lib.SmallJoins
namespace Go.Proofs.Ytfbefjpajmigmaa.dateParses
open Go.ChangeShapes Go.WideShapes Go.ChangeAt Go.RowKit DateM Go.Lib
set_option linter.unusedVariables false

theorem chain3 {w w1 w2 w3 : World} (h1 : Below w.heap.size w w1) (h2 : Below w1.heap.size w1 w2) (h3 : Below w2.heap.size w2 w3) : Below w.heap.size w w3 :=
  (h1.trans (h2.mono h1.size)).trans (h3.mono (Nat.le_trans h1.size h2.size))
set_option maxRecDepth 100000 in
set_option maxHeartbeats 1000000 in
theorem walk (S : ByteArray) (hs : S.size ≤ maxLen) (w : World) : Calls Try.prog 9 #[.string S] w (TrueOk w) := by
  unfold maxLen at hs
  by_cases hr : S.size ≤ 100
  · have h1 : ¬ 100 < (S.size : Int) := by omega
    go_enter Try.func9, Try.ntmps9
    go_wp2_with fail
    refine (wakes_any _).mono ?_
    rintro e w1 ⟨rfl, hb1⟩
    go_wp2_with fail
    refine (parse_any S _ hs).mono ?_
    rintro e w2 (⟨t, ht1, ht2, ht3, rfl, hb2⟩ | ⟨hn, rfl, hb2⟩)
    · have HI := hide ht3
      clear ht3
      go_wp2_with fail
      refine (rparse_any S _ hs).mono ?_
      rintro e w3 (⟨t', _, _, ht3', rfl, hb3⟩ | ⟨hn, _, _⟩)
      · obtain rfl : t = t' := HI.out.inj ht3'
        clear ht3'
        go_wp2_with fail
        refine (text_yes _ _ ht1 ht2).mono ?_
        rintro e w4 ⟨y, m, d, k, s, ht, rfl, hb4⟩
        have e1 : (⟨(textL y m d k s).toArray⟩ : ByteArray) = S := IsText.uniq ⟨y, m, d, k, s, ht, rfl⟩ HI.out
        clear ht
        rw [e1]
        clear e1
        go_wp2
        go_ret
        exact ⟨ret_bool (by simp), (chain3 hb1 hb2 hb3).trans (hb4.mono (Nat.le_trans (Nat.le_trans hb1.size hb2.size) hb3.size))⟩
      · exact absurd HI.out (hn _)
    · have HN := hide hn
      clear hn
      go_wp2_with fail
      refine (rparse_any S _ hs).mono ?_
      rintro e w3 (⟨t', _, _, ht3', rfl, hb3⟩ | ⟨hn, rfl, hb3⟩)
      · exact absurd ht3' (HN.out _)
      · clear hn
        go_wp2
        go_ret
        exact ⟨ret_bool (by simp), chain3 hb1 hb2 hb3⟩
  · have h1 : 100 < (S.size : Int) := by omega
    go_enter Try.func9, Try.ntmps9
    go_wp2_with fail
    refine (wakes_any _).mono ?_
    rintro e w1 ⟨rfl, hb1⟩
    go_wp2_with fail
    go_ret
    exact ⟨rfl, hb1⟩

theorem ps : ∀ t ∈ Try.f9.params.toList, Try.prog.readableRec t = true ∧ t < Try.prog.types.size := by
  rw [Try.params9]
  intro t ht
  obtain rfl : t = _ := by simpa using ht
  exact ⟨by kernel_rfl, of_decide_eq_true (by kernel_rfl)⟩

set_option maxRecDepth 100000 in
theorem lifted (os : Os) (started : os.Started) (H : Type) (enc : TypeId × Value → H) :
    ReturnsInHanded {} Try.checked os 9 .any (Rows.dateParsesSpec.pre6 enc Try.prog Try.f9 Rows.dateParsesRow.domain false) (Rows.dateParsesSpec.post enc Try.prog Try.f9 false true false false) := by
  refine returnsInHanded_of_change (C := Try.checked) law_own started (by kernel_rfl) Try.func9
    (ChangeSpec.witness6 (enc := enc) (C := Try.checked) false ⟨#[], #[.string ByteArray.empty], []⟩ 8 (by kernel_rfl) (by kernel_rfl) (by kernel_rfl) (by kernel_rfl)) ?_
  intro W base args ds gs before hval0 hW hcnd _
  have hval : ∀ (j : Nat) t v, Try.f9.params[j]? = some t → args[j]? = some v → Value.okWide Try.prog W .any base t v := hval0
  have hW' := hW
  have hlt : ∀ p ∈ before, p.block < W.heap.size := fun p hp => hW.lt p hp
  obtain ⟨p, q, hA0, hV, rfl, hfz, hnd⟩ := hW
  have hA : DataW.TrodAll enc Try.prog W 0 (fun _ => true) true Try.f9.params.toList args.toList ds p := hA0
  rw [Try.params9] at hA hval
  obtain ⟨v0, vs0, d0, ds0, p0, q0, hargs, rfl, rfl, h0, r0⟩ := trodAll_cons hA
  obtain ⟨rfl, rfl, rfl⟩ := trodAll_nil r0
  obtain rfl : args = #[v0] := by cases args; simp_all
  obtain ⟨rfl, rfl⟩ := trodVars_none hV
  obtain ⟨S, rfl, rfl, rfl, hs⟩ := ChangeMaps.open_string Try.underlying9 (hval 0 9 v0 rfl rfl) h0
  clear hA0 hval0
  refine (walk S hs W).mono fun e W' ⟨he, hb⟩ => ?_
  subst he
  exact ⟨_, rfl, law_close hW' rfl rfl rfl ps hb⟩

theorem proved : Rows.DateParsesSaid :=
  OpenClaim.holds_of_wide 9 Try.f9 rfl rfl rfl rfl rfl rfl rfl ⟨rfl, rfl, rfl, rfl, rfl⟩ rfl rfl rfl rfl rfl (by kernel_rfl) Try.func9 (by kernel_rfl)
    (of_decide_eq_true (by kernel_rfl)) (by unfold Func.isWrapper; first | (rw [if_pos (by decide +kernel)]; kernel_rfl) | (rw [if_neg (by decide +kernel)]; exact ⟨rfl, rfl⟩))
    (fun os started H enc _ => lifted os started H enc)
#print axioms proved
end Go.Proofs.Ytfbefjpajmigmaa.dateParses
