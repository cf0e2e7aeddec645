/-
  Any text is the age that the reference says, or none: for every text.
-/
import Derived.Test.YtkkhiahdmlmecaaDoorCtlX
import Derived.Test.YtkkhiahdmlmecaaDoorRcpF
import Derived.Test.YtkkhiahdmlmecaaDoorRcpG
import Derived.Test.YtkkhiahdmlmecaaDoorRctC
import Derived.Test.YtkkhiahdmlmecaaDoorCpN
import Derived.Test.YtkkhiahdmlmecaaDoorOpenS
import Derived.Test.YtkkhiahdmlmecaaDoorLiftS
import Derived.Test.YtkkhiahdmlmecaaDoorTie
import Derived.Test.YtkkhiahdmlmecaaDoorCards
import Derived.SevenTiedAt
import Derived.Deep.DeepCutAuto
import Derived.Deep.RegionHeld3
import Derived.Test.YtkkhiahdmlmecaaDoorQuiet
namespace Go.Proofs.YtkkhiahdmlmecaaDoor.controlAge
open Go.ChangeShapes Go.WideShapes Go.ChangeAt Go.RowKit Go.Deep
set_option linter.unusedVariables false
set_option linter.unusedSimpArgs false

set_option maxRecDepth 100000 in
set_option maxHeartbeats 8000000 in
theorem walk (s : ByteArray) (w : World) (hT : Tab w) (hM : MaxI w.heap.size w) (hs : s.size ≤ 9223372036854775807) : Calls Tryd.prog 7 #[.string s] w (BoolOk true w) := by
  have HT := hide hT
  have HM := hide hM
  clear hT hM
  have hB0 : Below w.heap.size w w := Below.refl _ _
  go_enter Tryd.func7, Tryd.ntmps7
  go_wp2_with fail
  refine (awake9 _ (HT.out.below hB0) ((HM.out.below hB0).mono hB0.size)).mono ?_
  rintro e w1 ⟨rfl, hb1⟩
  have hB1 := hB0.trans (hb1.mono hB0.size)
  clear hb1
  by_cases h3 : 300 < s.size
  · have d3 : decide ((s.size : Int) > 300) = true := decide_eq_true (by omega)
    go_wp2_with fail
    refine (awake9 _ (HT.out.below hB1) ((HM.out.below hB1).mono hB1.size)).mono ?_
    rintro e w2 ⟨rfl, hb2⟩
    have hB2 := hB1.trans (hb2.mono hB1.size)
    clear hb2
    go_wp2_with fail
    go_ret
    exact ⟨rfl, hB2⟩
  · have d3 : decide ((s.size : Int) > 300) = false := decide_eq_false (by omega)
    go_wp2_with fail
    refine (cage_any s _ (by omega)).mono ?_
    rintro e w2 ⟨rfl, hb2⟩
    have hB2 := hB1.trans (hb2.mono hB1.size)
    obtain ⟨n, hn⟩ : ∃ n, n = ageV s.data.toList := ⟨_, rfl⟩
    have hbd := numV_bd (trimB s.data.toList)
    have hnn : n = numV (trimB s.data.toList) := hn
    rw [← hnn] at hbd
    rw [← hn]
    have HN := hide hn
    clear hn hnn
    obtain ⟨m, hm⟩ : ∃ m, m = (if n < 0 then 0 else n) := ⟨_, rfl⟩
    obtain ⟨k, hk⟩ : ∃ k : Int, k = (if n < 0 then 2 else 0) := ⟨_, rfl⟩
    have hm0 : 0 ≤ m ∧ m ≤ 1099511627776 := by rw [hm]; split <;> omega
    obtain ⟨hm0, hm1⟩ := hm0
    rw [← hm, ← hk]
    have HMM := hide hm
    have HK := hide hk
    clear hm hk hbd
    go_wp2_with fail
    refine (rcage_any s _ (by omega)).mono ?_
    rintro e w3 ⟨rfl, hb3⟩
    have hB3 := hB2.trans (hb3.mono hB2.size)
    rw [← HN.out, ← HMM.out, ← HK.out]
    have g1 : (m == m) = true := by simp
    have g2 : (k == k) = true := by simp
    have g3 : decide (m ≥ 0) = true := decide_eq_true hm0
    have g4 : decide (m ≤ 1099511627776) = true := decide_eq_true hm1
    go_wp2_with fail
    go_ret
    exact ⟨rfl, hB3⟩

theorem ps : ∀ t ∈ Tryd.f7.params.toList, Tryd.prog.readableRec t = true ∧ t < Tryd.prog.types.size := by
  rw [Tryd.params7]
  intro t ht
  obtain rfl : t = _ := by simpa using ht
  exact ⟨by kernel_rfl, of_decide_eq_true (by kernel_rfl)⟩

set_option maxRecDepth 100000 in
theorem lifted (os : Os) (started : os.Started) (H : Type) (enc : TypeId × Value → H) :
    ReturnsInHanded {} Tryd.checked os 7 .any (fun w args => (Rows.controlAgeSpec.pre enc Tryd.prog Tryd.f7 [] false w args ∧ laidMetH Tryd.prog laidL w) ∧ sizedMet enc Tryd.prog Tryd.f7 (OpenSpec.ofChange Rows.controlAgeSpec) false w args) (Rows.controlAgeSpec.post enc Tryd.prog Tryd.f7 false true false false) := by
  refine returns_shaped (C := Tryd.checked) (X := fun w _ => laidMetH Tryd.prog laidL w) (fun _ _ _ hh h => h.of_heap hh) law_own started (by kernel_rfl) Tryd.func7
    (ChangeSpec.witness_shaped (enc := enc) (C := Tryd.checked) (os := os) (X := fun w _ => laidMetH Tryd.prog laidL w) false (World.laidAll Tryd.prog os laidL) #[.string ByteArray.empty] 8 (World.laidAll_os _ _ _) (World.shaped_of_ZipB (by kernel_rfl) (by kernel_rfl)) (by kernel_rfl) (by kernel_rfl) (by kernel_rfl) (by rw [MakeChecks.laidMetH_plain _ _ _ (by kernel_rfl)]; exact laidMet_laidAll _ (by kernel_rfl) (by kernel_rfl))) ?_
  intro W base args ds gs before hval0 hW hsz hL hshp
  have hval : ∀ (j : Nat) t v, Tryd.f7.params[j]? = some t → args[j]? = some v → Value.okWide Tryd.prog W .any base t v := hval0
  have hW' := hW
  have hlt : ∀ p ∈ before, p.block < W.heap.size := fun p hp => hW.lt p hp
  obtain ⟨p, q, hA0, hV, rfl, hfz, hnd⟩ := hW
  have hA : DataW.TrodAll enc Tryd.prog W 0 (fun _ => true) true Tryd.f7.params.toList args.toList ds p := hA0
  rw [Tryd.params7] at hA hval
  obtain ⟨v0, vs0, d0, ds0, p0, q0, hargs, rfl, rfl, h0, r0⟩ := trodAll_cons hA
  obtain ⟨rfl, rfl, rfl⟩ := trodAll_nil r0
  obtain rfl : args = #[v0] := by cases args; simp_all
  obtain ⟨rfl, rfl⟩ := trodVars_none hV
  obtain ⟨s, rfl, rfl, rfl, hs⟩ := ChangeMaps.open_string Tryd.underlying9 (hval 0 9 v0 rfl rfl) h0
  clear hA0 hval0
  refine (walk s W (tab_of_laid hL) (max_of_shaped hshp) hs).mono fun e W' ⟨he, hb⟩ => ?_
  subst he
  exact ⟨_, rfl, law_close hW' rfl rfl rfl ps hb⟩

theorem row : Rows.ControlAgeSaid :=
  OpenClaim.holds_of_wide 7 Tryd.f7 rfl rfl rfl rfl rfl rfl rfl ⟨rfl, rfl, rfl, rfl, rfl⟩ rfl rfl rfl rfl rfl (by kernel_rfl) Tryd.func7 (by kernel_rfl)
    (of_decide_eq_true (by kernel_rfl)) (by unfold Func.isWrapper; first | (rw [if_pos (by decide +kernel)]; kernel_rfl) | (rw [if_neg (by decide +kernel)]; exact ⟨rfl, rfl⟩))
    (fun os started H enc _ => lifted os started H enc)
theorem proved : Rows.ControlAgeCardSaid :=
  Claim7.holds_tied_plain_at .later [] [.data, .data, .data, .data, .pinned] true (true, "47bf4a7fe6062e09cc840642f666f4950bf45abcb44de0de44643b9d1afe0cfc") false
    row (fun _ h => by cases h) (by kernel_rfl) (fun _ h => by cases h) controlAge_row_tie rfl ⟨rfl, rfl⟩ (by kernel_rfl) rfl
    (fun f fn hf hfn => by
      obtain rfl : f = 7 := Option.some.inj ((show Tryd.prog.funcNamed "mandoline/mandolinelaw09.ControlAge" = some 7 by kernel_rfl).symm.trans hf) |>.symm
      obtain rfl : fn = Tryd.f7 := (Option.some.inj (Tryd.func7.symm.trans hfn)).symm
      exact ⟨by kernel_rfl, fun j t ht => by
        rw [Tryd.params7] at ht
        have hm : t ∈ [9] := by simpa using Array.mem_of_getElem? ht
        have hall : ([9].all fun u => !Tryd.prog.wantsStandIn u) = true := by kernel_rfl
        exact (show Tryd.prog.wantsStandIn t = false by simpa using List.all_eq_true.1 hall t hm)⟩)
    (by kernel_rfl)
#print axioms proved

end Go.Proofs.YtkkhiahdmlmecaaDoor.controlAge
