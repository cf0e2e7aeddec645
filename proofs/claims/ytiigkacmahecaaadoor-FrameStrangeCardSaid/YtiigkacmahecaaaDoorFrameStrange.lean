/-
  Of any answer's head, to any method, the body ends as the reference says: for every status, list of fields and method.
-/
import Derived.Test.YtiigkacmahecaaaDoorFrW
import Derived.Test.YtiigkacmahecaaaDoorFrY
import Derived.Test.YtiigkacmahecaaaDoorFrG
import Derived.Test.YtiigkacmahecaaaDoorGrO
import Derived.Test.YtiigkacmahecaaaDoorGrL
import Derived.Test.YtiigkacmahecaaaDoorTie
import Derived.Test.YtiigkacmahecaaaDoorCards
import Derived.SevenTiedAt
import Derived.Deep.DeepCutAuto
namespace Go.Proofs.YtiigkacmahecaaaDoor.frameStrange
open Go.ChangeShapes Go.WideShapes Go.ChangeAt Go.RowKit Go.Deep
set_option linter.unusedVariables false
set_option linter.unusedSimpArgs false

set_option maxRecDepth 100000 in
set_option maxHeartbeats 16000000 in
theorem walk (st : Int) (v : Value) (l : List FieldL) (s : ByteArray) (w : World) (hr : RdL LF w w.heap.size v l) (hz : ∀ f ∈ l, f.1.length ≤ 140737488351232 ∧ f.2.length ≤ 140737488351232) : Calls Tryd.prog 3 #[.int .i64 st, v, .string s] w (BoolOk true w) := by
  obtain ⟨A, c, rfl, _, _⟩ := hr.form
  have HR := hide hr
  have HZ := hide hz
  clear hr hz
  have hB0 := Below.refl w.heap.size w
  go_enter Tryd.func3, Tryd.ntmps3
  go_wp2_with fail
  refine (awake_any _).mono ?_
  rintro e w1 ⟨rfl, hb1⟩
  have hB1 := hB0.trans (hb1.mono hB0.size)
  by_cases h50 : 50 < s.size
  · have d50 : decide ((s.size : Int) > 50) = true := decide_eq_true (by omega)
    go_wp2_with fail
    refine (awake_any _).mono ?_
    rintro e w2 ⟨rfl, hb2⟩
    have hB2 := hB1.trans (hb2.mono hB1.size)
    go_wp2_with fail
    go_ret
    exact ⟨rfl, hB2⟩
  · have d50 : decide ((s.size : Int) > 50) = false := decide_eq_false (by omega)
    go_wp2_with fail
    refine (great_any _ l w1 ((HR.out.below hB1).mono hB1.size) HZ.out).mono ?_
    rintro e w2 ⟨r, rfl, hb2, hg⟩
    have hB2 := hB1.trans (hb2.mono hB1.size)
    cases r
    · obtain ⟨hl, hsum⟩ := hg rfl
      clear hg
      have HZ1 := hide (show ∀ f ∈ l, f.1.length ≤ 1000000 from fun f hf => by have := sumF_mem hf; omega)
      have HZ2 := hide (show ∀ f ∈ l, f.2.length ≤ 12000 from fun f hf => by have := sumF_mem hf; omega)
      have HZ3 := hide (show ∀ f ∈ l, f.2.length ≤ 1000000 from fun f hf => by have := sumF_mem hf; omega)
      have RK := hide (show RdL LF (w2.alloc (.cells #[] LF.e)) w2.heap.size (.slice A l.length c) l from (((HR.out.below hB2).mono hB2.size).below ((Below.refl _ _).alloc (Nat.le_refl _) _)))
      have HL9 := hide (show ([] : List FieldL).length + l.length ≤ 1000000000 by rw [List.length_nil]; omega)
      go_wp2_with (first | (at_builtin; refine wpList_appL LF w2 (by rfl) (.tmp 27) (.tmp 28) _ _ (by rfl) rfl rfl w2.heap.size _ ([] : List FieldL) (by rfl) (OwnL.made LF w2 #[] 0 w2.heap.size (Nat.le_refl _) (by decide) rfl) ((Below.refl _ _).alloc (Nat.le_refl _) _) (by simp) _ l _ (by rfl) RK.out (by decide) HL9.out ?_; intro v3 w3 O3 hb3 _ _; rw [List.nil_append] at O3; obtain ⟨A3, c3, hv3, _, _⟩ := O3.rd.form; subst hv3) | fail)
      have hB3 := hB2.trans (hb3.mono hB2.size)
      refine (fOf_any _ _ st _ l s w3 O3.rd HZ1.out HZ3.out (by omega)).mono ?_
      rintro e w4 ⟨rfl, hb4⟩
      have hB4 := hB3.trans (hb4.mono hB3.size)
      obtain ⟨m, hm⟩ : ∃ x, x = endM (headB s || bareB st) (ofV l wTE) (ofV l wCL) := ⟨_, rfl⟩
      have HM := hide hm
      rw [← hm]
      clear hm RK HL9
      clear O3
      go_wp2_with fail
      refine (rOf_any st _ l s w4 ((HR.out.below hB4).mono hB4.size) HZ1.out HZ2.out (by omega)).mono ?_
      rintro e w5 ⟨rfl, hb5⟩
      have hB5 := hB4.trans (hb5.mono hB4.size)
      rw [← HM.out]
      go_wp2_with fail
      go_ret
      exact ⟨rfl, hB5⟩
    · clear hg
      go_wp2_with fail
      refine (awake_any _).mono ?_
      rintro e w3 ⟨rfl, hb3⟩
      have hB3 := hB2.trans (hb3.mono hB2.size)
      go_wp2_with fail
      go_ret
      exact ⟨rfl, hB3⟩

theorem ps : ∀ t ∈ Tryd.f3.params.toList, Tryd.prog.readableRec t = true ∧ t < Tryd.prog.types.size := by
  rw [Tryd.params3]
  intro t ht
  simp at ht
  rcases ht with rfl | rfl | rfl
  all_goals exact ⟨by kernel_rfl, of_decide_eq_true (by kernel_rfl)⟩

set_option maxRecDepth 100000 in
theorem lifted (os : Os) (started : os.Started) (H : Type) (enc : TypeId × Value → H) :
    ReturnsInHanded {} Tryd.checked os 3 .any (fun w args => (Rows.frameStrangeSpec.pre enc Tryd.prog Tryd.f3 [] false w args ∧ laidMetH Tryd.prog laidL w) ∧ sizedMet enc Tryd.prog Tryd.f3 (OpenSpec.ofChange Rows.frameStrangeSpec) false w args) (Rows.frameStrangeSpec.post enc Tryd.prog Tryd.f3 false true false false) := by
  refine returnsInHanded_of_change_and (C := Tryd.checked) (X := fun w _ => laidMetH Tryd.prog laidL w) (fun _ _ _ hh h => h.of_heap hh) law_own started (by kernel_rfl) Tryd.func3
    (ChangeSpec.witness_shaped (enc := enc) (C := Tryd.checked) (os := os) (X := fun w _ => laidMetH Tryd.prog laidL w) false (World.laidAll Tryd.prog os laidL) #[.int .i64 0, .slice none 0 0, .string ⟨#[]⟩] 8 (World.laidAll_os _ _ _) (World.shaped_of_ZipB (by kernel_rfl) (by kernel_rfl)) (by kernel_rfl) (by kernel_rfl) (by kernel_rfl) (by rw [MakeChecks.laidMetH_plain _ _ _ (by kernel_rfl)]; exact laidMet_laidAll _ (by kernel_rfl) (by kernel_rfl))) ?_
  intro W base args ds gs before hval0 hW _ hsz hL _
  have hval : ∀ (j : Nat) t v, Tryd.f3.params[j]? = some t → args[j]? = some v → Value.okWide Tryd.prog W .any base t v := hval0
  have hW' := hW
  have hlt : ∀ p ∈ before, p.block < W.heap.size := fun p hp => hW.lt p hp
  obtain ⟨p, q, hA0, hV, rfl, hfz, hnd⟩ := hW
  have hA : DataW.TrodAll enc Tryd.prog W 0 (fun _ => true) true Tryd.f3.params.toList args.toList ds p := hA0
  rw [Tryd.params3] at hA hval
  obtain ⟨v0, vs0, d0, ds0, p0, q0, hargs, rfl, rfl, h0, r0⟩ := trodAll_cons hA
  obtain ⟨v1, vs1, d1, ds1, p1, q1, rfl, rfl, rfl, h1, r1⟩ := trodAll_cons r0
  obtain ⟨v2, vs2, d2, ds2, p2, q2, rfl, rfl, rfl, h2, r2⟩ := trodAll_cons r1
  obtain ⟨rfl, rfl, rfl⟩ := trodAll_nil r2
  obtain rfl : args = #[v0, v1, v2] := by cases args; simp_all
  obtain ⟨rfl, rfl⟩ := trodVars_none hV
  obtain ⟨st, rfl, rfl, rfl, _⟩ := open_int Tryd.underlying3 (hval 0 3 v0 rfl rfl) h0
  obtain ⟨l, hr, hz, hn⟩ := open_fields_arg (hval 1 22 v1 rfl rfl) h1 (fun n hn => by have := List.all_eq_true.1 hsz n (DataW.weights_mem_each (j := 1) (by rw [Tryd.params3]; rfl) rfl n hn); simpa using this)
  obtain ⟨s, rfl, rfl, rfl, hs⟩ := ChangeMaps.open_string Tryd.underlying9 (hval 2 9 v2 rfl rfl) h2
  clear hA0 hval0
  refine (walk st _ l s W hr hz).mono fun e W' ⟨he, hb⟩ => ?_
  subst he
  exact ⟨_, rfl, law_close hW' rfl rfl rfl ps hb⟩

theorem row : Rows.FrameStrangeSaid :=
  OpenClaim.holds_of_wide 3 Tryd.f3 rfl rfl rfl rfl rfl rfl rfl ⟨rfl, rfl, rfl, rfl, rfl⟩ rfl rfl rfl rfl rfl (by kernel_rfl) Tryd.func3 (by kernel_rfl)
    (of_decide_eq_true (by kernel_rfl)) (by unfold Func.isWrapper; first | (rw [if_pos (by decide +kernel)]; kernel_rfl) | (rw [if_neg (by decide +kernel)]; exact ⟨rfl, rfl⟩))
    (fun os started H enc _ => lifted os started H enc)
theorem proved : Rows.FrameStrangeCardSaid :=
  Claim7.holds_tied_plain_at .later [] [.data, .pinned] true (true, "87d5f9219f07a079969b4c10c39daa5a43c4b1aaca00ea7f38b869a1054ed3de") false
    row (fun _ h => by cases h) (by kernel_rfl) (fun _ h => by cases h) frameStrange_row_tie rfl ⟨rfl, rfl⟩ (by kernel_rfl) rfl
    (fun f fn hf hfn => by
      obtain rfl : f = 3 := Option.some.inj ((show Tryd.prog.funcNamed "mandoline/mandolinelaw13.FrameStrange" = some 3 by kernel_rfl).symm.trans hf) |>.symm
      obtain rfl : fn = Tryd.f3 := (Option.some.inj (Tryd.func3.symm.trans hfn)).symm
      exact ⟨by kernel_rfl, fun j t ht => by
        rw [Tryd.params3] at ht
        have hm : t ∈ [3, 22, 9] := by simpa using Array.mem_of_getElem? ht
        have hall : ([3, 22, 9].all fun u => !Tryd.prog.wantsStandIn u) = true := by kernel_rfl
        exact (show Tryd.prog.wantsStandIn t = false by simpa using List.all_eq_true.1 hall t hm)⟩)
    (by kernel_rfl)
#print axioms proved

end Go.Proofs.YtiigkacmahecaaaDoor.frameStrange
