/-
  Any text is the list that the reference says, or none's: for every text.
-/
import Derived.Test.YtnipbhmacfnjfaaDoorTagZ
import Derived.Test.YtnipbhmacfnjfaaDoorTagU
import Derived.Test.YtnipbhmacfnjfaaDoorTagR
import Derived.Test.YtnipbhmacfnjfaaDoorOpenT
import Derived.Test.YtnipbhmacfnjfaaDoorOpenC
import Derived.Test.YtnipbhmacfnjfaaDoorLaidT
import Derived.Test.YtnipbhmacfnjfaaDoorLift
import Derived.Test.YtnipbhmacfnjfaaDoorTie
import Derived.Test.YtnipbhmacfnjfaaDoorCards
import Derived.SevenTiedAt
import Derived.Deep.DeepCutAuto
import Derived.Deep.RegionHeld3
namespace Go.Proofs.YtnipbhmacfnjfaaDoor.tagLists
open Go.ChangeShapes Go.WideShapes Go.ChangeAt Go.RowKit Go.Deep
set_option linter.unusedVariables false
set_option linter.unusedSimpArgs false

theorem rlist_lit {s : ByteArray} {r : ListR} (h : listB s.data.toList = r) (w : World) (hs : s.size ≤ 1000000) : Calls Tryd.prog 24 #[.string s] w (ListOk r w) := h ▸ rlist_any s w hs
theorem same_self (v1 v2 : Value) (l : List TagL) (w : World) (hr1 : RdL LT w w.heap.size v1 l) (hr2 : RdL LT w w.heap.size v2 l) : Calls Tryd.prog 25 #[v1, v2] w (BoolOk true w) := by
  have h := same_any v1 v2 l l w hr1 hr2
  rw [decide_eq_true rfl] at h
  exact h

set_option maxRecDepth 100000 in
set_option maxHeartbeats 1000000 in
theorem walk (s : ByteArray) (w : World) : Calls Tryd.prog 5 #[.string s] w (BoolOk true w) := by
  go_enter Tryd.func5, Tryd.ntmps5
  go_wp2_with fail
  refine (awake5 _).mono ?_
  rintro e w1 ⟨rfl, hb1⟩
  have hB1 := (Below.refl w.heap.size w).trans (hb1.mono (Below.refl w.heap.size w).size)
  clear hb1
  
  by_cases h6 : 600 < s.size
  · have d6 : decide ((s.size : Int) > 600) = true := decide_eq_true (by omega)
    go_wp2_with fail
    refine (awake5 _).mono ?_
    rintro e w2 ⟨rfl, hb2⟩
    have hB2 := hB1.trans (hb2.mono hB1.size)
    clear hb2
    
    go_wp2_with fail
    go_ret
    exact ⟨rfl, hB2⟩
  · have d6 : decide ((s.size : Int) > 600) = false := decide_eq_false (by omega)
    obtain ⟨r, hr⟩ : ∃ r, listB s.data.toList = r := ⟨_, rfl⟩
    go_wp2_with fail
    refine (list_lit hr _ (by omega)).mono ?_
    rintro e w2 ⟨v1, rfl, O1, hb2⟩
    have hB2 := hB1.trans (hb2.mono hB1.size)
    go_wp2_with fail
    refine (rlist_lit hr _ (by omega)).mono ?_
    rintro e w3 ⟨v2, rfl, O2, hb3⟩
    have hB3 := hB2.trans (hb3.mono hB2.size)
    replace O1 := O1.below hb3 (Nat.le_refl _)
    clear hr hb2 hb3
    obtain ⟨an, en, ls⟩ := r
    simp only at O1 O2
    go_wp2_with fail
    refine (same_self _ _ ls _ O1.rd O2.rd).mono ?_
    rintro e w4 ⟨rfl, hb4⟩
    have hB4 := hB3.trans (hb4.mono hB3.size)
    cases an
    · go_wp2_with fail
      go_ret
      exact ⟨rfl, hB4⟩
    · go_wp2_with fail
      go_ret
      exact ⟨rfl, hB4⟩

theorem ps : ∀ t ∈ Tryd.f5.params.toList, Tryd.prog.readableRec t = true ∧ t < Tryd.prog.types.size := by
  rw [Tryd.params5]
  intro t ht
  obtain rfl : t = _ := by simpa using ht
  exact ⟨by kernel_rfl, of_decide_eq_true (by kernel_rfl)⟩

set_option maxRecDepth 100000 in
theorem lifted (os : Os) (started : os.Started) (H : Type) (enc : TypeId × Value → H) :
    ReturnsInHanded {} Tryd.checked os 5 .any (fun w args => (Rows.tagListsSpec.pre enc Tryd.prog Tryd.f5 [] false w args ∧ laidMetH Tryd.prog laidL w) ∧ sizedMet enc Tryd.prog Tryd.f5 (OpenSpec.ofChange Rows.tagListsSpec) false w args) (Rows.tagListsSpec.post enc Tryd.prog Tryd.f5 false true false false) := by
  refine returnsInHanded_of_change_and (C := Tryd.checked) (X := fun w _ => laidMetH Tryd.prog laidL w) (fun _ _ _ hh h => h.of_heap hh) law_own started (by kernel_rfl) Tryd.func5
    (ChangeSpec.witness_shaped (enc := enc) (C := Tryd.checked) (os := os) (X := fun w _ => laidMetH Tryd.prog laidL w) false (World.laidAll Tryd.prog os laidL) #[.string ByteArray.empty] 8 (World.laidAll_os _ _ _) (World.shaped_of_ZipB (by kernel_rfl) (by kernel_rfl)) (by kernel_rfl) (by kernel_rfl) (by kernel_rfl) (by rw [MakeChecks.laidMetH_plain _ _ _ (by kernel_rfl)]; exact laidMet_laidAll _ (by kernel_rfl) (by kernel_rfl))) ?_
  intro W base args ds gs before hval0 hW _ hsz hL _
  have hval : ∀ (j : Nat) t v, Tryd.f5.params[j]? = some t → args[j]? = some v → Value.okWide Tryd.prog W .any base t v := hval0
  have hW' := hW
  have hlt : ∀ p ∈ before, p.block < W.heap.size := fun p hp => hW.lt p hp
  obtain ⟨p, q, hA0, hV, rfl, hfz, hnd⟩ := hW
  have hA : DataW.TrodAll enc Tryd.prog W 0 (fun _ => true) true Tryd.f5.params.toList args.toList ds p := hA0
  rw [Tryd.params5] at hA hval
  obtain ⟨v0, vs0, d0, ds0, p0, q0, hargs, rfl, rfl, h0, r0⟩ := trodAll_cons hA
  obtain ⟨rfl, rfl, rfl⟩ := trodAll_nil r0
  obtain rfl : args = #[v0] := by cases args; simp_all
  obtain ⟨rfl, rfl⟩ := trodVars_none hV
  obtain ⟨s, rfl, rfl, rfl, hs⟩ := ChangeMaps.open_string Tryd.underlying9 (hval 0 9 v0 rfl rfl) h0
  clear hA0 hval0
  refine (walk s W).mono fun e W' ⟨he, hb⟩ => ?_
  subst he
  exact ⟨_, rfl, law_close hW' rfl rfl rfl ps hb⟩

theorem row : Rows.TagListsSaid :=
  OpenClaim.holds_of_wide 5 Tryd.f5 rfl rfl rfl rfl rfl rfl rfl ⟨rfl, rfl, rfl, rfl, rfl⟩ rfl rfl rfl rfl rfl (by kernel_rfl) Tryd.func5 (by kernel_rfl)
    (of_decide_eq_true (by kernel_rfl)) (by unfold Func.isWrapper; first | (rw [if_pos (by decide +kernel)]; kernel_rfl) | (rw [if_neg (by decide +kernel)]; exact ⟨rfl, rfl⟩))
    (fun os started H enc _ => lifted os started H enc)
theorem proved : Rows.TagListsCardSaid :=
  Claim7.holds_tied_plain_at .later [] [.data, .pinned] true (true, "c41245ace16549ad04269c2019393a4276d1d6229939c27fe57ac0f1b86a51db") false
    row (fun _ h => by cases h) (by kernel_rfl) (fun _ h => by cases h) tagLists_row_tie rfl ⟨rfl, rfl⟩ (by kernel_rfl) rfl
    (fun f fn hf hfn => by
      obtain rfl : f = 5 := Option.some.inj ((show Tryd.prog.funcNamed "mandoline/mandolinelaw05.TagLists" = some 5 by kernel_rfl).symm.trans hf) |>.symm
      obtain rfl : fn = Tryd.f5 := (Option.some.inj (Tryd.func5.symm.trans hfn)).symm
      exact ⟨by kernel_rfl, fun j t ht => by
        rw [Tryd.params5] at ht
        have hm : t ∈ [9] := by simpa using Array.mem_of_getElem? ht
        have hall : ([9].all fun u => !Tryd.prog.wantsStandIn u) = true := by kernel_rfl
        exact (show Tryd.prog.wantsStandIn t = false by simpa using List.all_eq_true.1 hall t hm)⟩)
    (by kernel_rfl)
#print axioms proved

end Go.Proofs.YtnipbhmacfnjfaaDoor.tagLists
