/-
  Any values say the rule that the reference says: for every list of values.
-/
import Derived.Test.YtkkhiahdmlmecaaDoorCtlX
import Derived.Test.YtkkhiahdmlmecaaDoorRcpF
import Derived.Test.YtkkhiahdmlmecaaDoorRcpG
import Derived.Test.YtkkhiahdmlmecaaDoorRctC
import Derived.Test.YtkkhiahdmlmecaaDoorCpN
import Derived.Test.YtkkhiahdmlmecaaDoorOpenS
import Derived.Test.YtkkhiahdmlmecaaDoorLiftS
import Derived.Test.YtkkhiahdmlmecaaDoorTie
import Derived.Test.YtkkhiahdmlmecaaDoorCards
import Derived.SevenTiedAt
import Derived.Deep.DeepCutAuto
import Derived.Deep.RegionHeld3
import Derived.Test.YtkkhiahdmlmecaaDoorQuiet
namespace Go.Proofs.YtkkhiahdmlmecaaDoor.controlParses
open Go.ChangeShapes Go.WideShapes Go.ChangeAt Go.RowKit Go.Deep
set_option linter.unusedVariables false
set_option linter.unusedSimpArgs false

set_option maxRecDepth 100000 in
set_option maxHeartbeats 8000000 in
theorem walk (v : Value) (l : List Bs) (w : World) (hT : Tab w) (hM : MaxI w.heap.size w) (hr : RdL LS w w.heap.size v l) (hz : ∀ x ∈ l, x.length ≤ 140737488351232) : Calls Tryd.prog 3 #[v] w (BoolOk true w) := by
  have HT := hide hT
  have HM := hide hM
  clear hT hM
  obtain ⟨A, c, rfl, hlc, hc⟩ := hr.form
  have HR0 := hide hr
  have HZ := hide hz
  clear hr hz
  have hB0 : Below w.heap.size w w := Below.refl _ _
  go_enter Tryd.func3, Tryd.ntmps3
  go_wp2_with fail
  refine (awake9 _ (HT.out.below hB0) ((HM.out.below hB0).mono hB0.size)).mono ?_
  rintro e w1 ⟨rfl, hb1⟩
  have hB1 := hB0.trans (hb1.mono hB0.size)
  have HR1 := hide ((HR0.out.below hb1).mono hb1.size)
  clear hb1
  go_wp2_with fail
  refine (great_any _ l _ HR1.out (fun x hx => by have := HZ.out x hx; omega)).mono ?_
  rintro e w' ⟨rfl, rfl⟩
  cases q : decide (600 < sumL l)
  · have hs6 : sumL l ≤ 600 := by have := of_decide_eq_false q; omega
    have HQ := hide q
    clear q
    have HZ2 := hide (show ∀ x ∈ l, x.length ≤ 1000000 from fun x hx => by have := sumL_mem hx; omega)
    have hll : l.length ≤ 1000000 := by
      have : ∀ l : List Bs, l.length ≤ sumL l := by
        intro l
        induction l with
        | nil => simp [sumL]
        | cons y l ih => rw [sumL]; simp; omega
      have := this l
      omega
    have hz1 := hB1.size
    have R5 := (HR1.out.below ((Below.refl _ w1).alloc (Nat.le_refl _) (.cells #[] 9))).mono (show w1.heap.size ≤ (w1.alloc (.cells #[] 9)).heap.size by simp)
    have O5 := OwnL.made LS w1 #[] 0 w.heap.size hB1.size (by decide) rfl
    go_wp2_with (at_builtin; refine wpList_appL LS w (by rfl) (.tmp 10) (.tmp 11) _ _ (by rfl) rfl rfl w.heap.size _ [] (by rfl) O5 (hB1.alloc hB1.size _) (by simp; omega) _ l _ (by rfl) R5 (by decide) (by simp; omega) ?_)
    intro v6 w6 O6 hB6 _ _
    have HR6 := hide ((HR0.out.below hB6).mono hB6.size)
    clear R5 O5 HR1
    obtain ⟨A6, c6, hv6, _, _⟩ := O6.rd.form
    subst hv6
    go_wp2_with fail
    refine (cparse_any _ _ w6 ((HM.out.below hB6).mono hB6.size) O6.rd HZ2.out).mono ?_
    rintro e w7 ⟨rfl, hb7⟩
    have hB7 := hB6.trans (hb7.mono hB6.size)
    have HR7 := hide ((HR6.out.below hb7).mono hb7.size)
    obtain ⟨⟨mx, sh, wh, er, ns, nc, pv⟩, hr7⟩ : ∃ r, r = parsesV l := ⟨_, rfl⟩
    rw [← hr7]
    have HP := hide hr7
    clear hr7 hb7 HR6 O6
    unfold RuleM.cells
    go_wp2_with fail
    refine (rcparse_any _ l w7 HR7.out HZ2.out).mono ?_
    rintro e w8 ⟨rfl, hb8⟩
    rw [← HP.out]
    unfold RuleM.cells
    have hB8 := hB7.trans (hb8.mono hB7.size)
    clear hb8
    go_wp2_with fail
    refine (same_self mx sh wh er ns nc pv w8).mono ?_
    rintro e w9 ⟨rfl, hb9⟩
    go_wp2_with fail
    go_ret
    exact ⟨rfl, hB8.trans (hb9.mono hB8.size)⟩
  · have HQ := hide q
    clear q
    go_wp2_with fail
    refine (awake9 _ (HT.out.below hB1) ((HM.out.below hB1).mono hB1.size)).mono ?_
    rintro e w2 ⟨rfl, hb2⟩
    have hB2 := hB1.trans (hb2.mono hB1.size)
    replace HR1 := hide ((HR1.out.below hb2).mono hb2.size)
    clear hb2
    go_wp2_with fail
    go_ret
    exact ⟨rfl, hB2⟩

theorem ps : ∀ t ∈ Tryd.f3.params.toList, Tryd.prog.readableRec t = true ∧ t < Tryd.prog.types.size := by
  rw [Tryd.params3]
  intro t ht
  obtain rfl : t = _ := by simpa using ht
  exact ⟨by kernel_rfl, of_decide_eq_true (by kernel_rfl)⟩

set_option maxRecDepth 100000 in
theorem lifted (os : Os) (started : os.Started) (H : Type) (enc : TypeId × Value → H) :
    ReturnsInHanded {} Tryd.checked os 3 .any (fun w args => (Rows.controlParsesSpec.pre enc Tryd.prog Tryd.f3 [] false w args ∧ laidMetH Tryd.prog laidL w) ∧ sizedMet enc Tryd.prog Tryd.f3 (OpenSpec.ofChange Rows.controlParsesSpec) false w args) (Rows.controlParsesSpec.post enc Tryd.prog Tryd.f3 false true false false) := by
  refine returns_shaped (C := Tryd.checked) (X := fun w _ => laidMetH Tryd.prog laidL w) (fun _ _ _ hh h => h.of_heap hh) law_own started (by kernel_rfl) Tryd.func3
    (ChangeSpec.witness_shaped (enc := enc) (C := Tryd.checked) (os := os) (X := fun w _ => laidMetH Tryd.prog laidL w) false (World.laidAll Tryd.prog os laidL) #[.slice none 0 0] 8 (World.laidAll_os _ _ _) (World.shaped_of_ZipB (by kernel_rfl) (by kernel_rfl)) (by kernel_rfl) (by kernel_rfl) (by kernel_rfl) (by rw [MakeChecks.laidMetH_plain _ _ _ (by kernel_rfl)]; exact laidMet_laidAll _ (by kernel_rfl) (by kernel_rfl))) ?_
  intro W base args ds gs before hval0 hW hsz hL hshp
  have hval : ∀ (j : Nat) t v, Tryd.f3.params[j]? = some t → args[j]? = some v → Value.okWide Tryd.prog W .any base t v := hval0
  have hW' := hW
  have hlt : ∀ p ∈ before, p.block < W.heap.size := fun p hp => hW.lt p hp
  obtain ⟨p, q, hA0, hV, rfl, hfz, hnd⟩ := hW
  have hA : DataW.TrodAll enc Tryd.prog W 0 (fun _ => true) true Tryd.f3.params.toList args.toList ds p := hA0
  rw [Tryd.params3] at hA hval
  obtain ⟨v0, vs0, d0, ds0, p0, q0, hargs, rfl, rfl, h0, r0⟩ := trodAll_cons hA
  obtain ⟨rfl, rfl, rfl⟩ := trodAll_nil r0
  obtain rfl : args = #[v0] := by cases args; simp_all
  obtain ⟨rfl, rfl⟩ := trodVars_none hV
  obtain ⟨l, hr, hz⟩ := open_strs_arg (hval 0 22 v0 rfl rfl) h0 (fun n hn => by have := List.all_eq_true.1 hsz n (DataW.weights_mem_each (j := 0) (by rw [Tryd.params3]; rfl) rfl n hn); simpa using this)
  clear hA0 hval0
  refine (walk _ l W (tab_of_laid hL) (max_of_shaped hshp) hr hz).mono fun e W' ⟨he, hb⟩ => ?_
  subst he
  exact ⟨_, rfl, law_close hW' rfl rfl rfl ps hb⟩

theorem row : Rows.ControlParsesSaid :=
  OpenClaim.holds_of_wide 3 Tryd.f3 rfl rfl rfl rfl rfl rfl rfl ⟨rfl, rfl, rfl, rfl, rfl⟩ rfl rfl rfl rfl rfl (by kernel_rfl) Tryd.func3 (by kernel_rfl)
    (of_decide_eq_true (by kernel_rfl)) (by unfold Func.isWrapper; first | (rw [if_pos (by decide +kernel)]; kernel_rfl) | (rw [if_neg (by decide +kernel)]; exact ⟨rfl, rfl⟩))
    (fun os started H enc _ => lifted os started H enc)
theorem proved : Rows.ControlParsesCardSaid :=
  Claim7.holds_tied_plain_at .later [] [.data, .data, .data, .data, .pinned] true (true, "47bf4a7fe6062e09cc840642f666f4950bf45abcb44de0de44643b9d1afe0cfc") false
    row (fun _ h => by cases h) (by kernel_rfl) (fun _ h => by cases h) controlParses_row_tie rfl ⟨rfl, rfl⟩ (by kernel_rfl) rfl
    (fun f fn hf hfn => by
      obtain rfl : f = 3 := Option.some.inj ((show Tryd.prog.funcNamed "mandoline/mandolinelaw09.ControlParses" = some 3 by kernel_rfl).symm.trans hf) |>.symm
      obtain rfl : fn = Tryd.f3 := (Option.some.inj (Tryd.func3.symm.trans hfn)).symm
      exact ⟨by kernel_rfl, fun j t ht => by
        rw [Tryd.params3] at ht
        have hm : t ∈ [22] := by simpa using Array.mem_of_getElem? ht
        have hall : ([22].all fun u => !Tryd.prog.wantsStandIn u) = true := by kernel_rfl
        exact (show Tryd.prog.wantsStandIn t = false by simpa using List.all_eq_true.1 hall t hm)⟩)
    (by kernel_rfl)
#print axioms proved

end Go.Proofs.YtkkhiahdmlmecaaDoor.controlParses
