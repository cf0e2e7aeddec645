/-
  Any version's ticks are the rule that the reference says: for every ticks.
-/
import Derived.Test.YtkkhiahdmlmecaaDoorCtlX
import Derived.Test.YtkkhiahdmlmecaaDoorRcpF
import Derived.Test.YtkkhiahdmlmecaaDoorRcpG
import Derived.Test.YtkkhiahdmlmecaaDoorRctC
import Derived.Test.YtkkhiahdmlmecaaDoorCpN
import Derived.Test.YtkkhiahdmlmecaaDoorOpenS
import Derived.Test.YtkkhiahdmlmecaaDoorLiftS
import Derived.Test.YtkkhiahdmlmecaaDoorTie
import Derived.Test.YtkkhiahdmlmecaaDoorCards
import Derived.SevenTiedAt
import Derived.Deep.DeepCutAuto
import Derived.Deep.RegionHeld3
import Derived.Test.YtkkhiahdmlmecaaDoorQuiet
namespace Go.Proofs.YtkkhiahdmlmecaaDoor.controlOf
open Go.ChangeShapes Go.WideShapes Go.ChangeAt Go.RowKit Go.Deep
set_option linter.unusedVariables false
set_option linter.unusedSimpArgs false

set_option maxRecDepth 100000 in
set_option maxHeartbeats 8000000 in
theorem walk (a b c : Int) (kp : Bool) (w : World) (hT : Tab w) (hM : MaxI w.heap.size w)  : Calls Tryd.prog 6 #[.agg #[.int .i64 a, .int .i64 b, .int .i64 c], .bool kp] w (BoolOk true w) := by
  have HT := hide hT
  have HM := hide hM
  clear hT hM
  go_enter Tryd.func6, Tryd.ntmps6
  go_upto_region 2 with fail
  obtain ⟨w1, hw1⟩ : ∃ w1 : World, w1 = (w.alloc (.cells #[.int .i64 a, .int .i64 b, .int .i64 c] 35)).alloc (.cells #[.string ⟨#[]⟩, .bool false, .int .i64 0, .int .i64 0, .int .i64 0, .int .i64 a, .int .i64 b, .int .i64 c, .slice none 0 0, .string ⟨#[]⟩, .bool kp] 39) := ⟨_, rfl⟩
  rw [← hw1]
  have hB1 : Below w.heap.size w w1 := by rw [hw1]; exact (((Below.refl _ _).alloc (Nat.le_refl _) _).alloc (by simp) _)
  have T : Blk w1 (w.heap.size + 1) 39 #[.string ⟨#[]⟩, .bool false, .int .i64 0, .int .i64 0, .int .i64 0, .int .i64 a, .int .i64 b, .int .i64 c, .slice none 0 0, .string ⟨#[]⟩, .bool kp] := by rw [hw1]; exact Blk.new' (by simp)
  clear hw1
  have cT := T.cell
  have qT : ∀ (x : Bel w1.heap.size w1) i, x.w.cell? ⟨w.heap.size + 1, i, none⟩ = (#[.string ⟨#[]⟩, .bool false, .int .i64 0, .int .i64 0, .int .i64 0, .int .i64 a, .int .i64 b, .int .i64 c, .slice none 0 0, .string ⟨#[]⟩, .bool kp] : Array Value)[i]? := fun x i => (T.below x.h T.lt).cell i
  have uT := hide (show ∀ x : Bel w1.heap.size w1, Tab x.w from fun x => HT.out.below (hB1.trans (x.h.mono hB1.size)))
  have uM := hide (show ∀ x : Bel w1.heap.size w1, MaxI x.w.heap.size x.w from fun x => (HM.out.below (hB1.trans (x.h.mono hB1.size))).mono (hB1.trans (x.h.mono hB1.size)).size)
  clear cT
  refine wp_region_bel w1.heap.size (by kernel_rfl) (by kernel_rfl) ?_
  repeat (go_big_quiet_step ((first | (go_at_call 11; exact bel_call (Nat.le_refl _) (awake9 _ (uT.out _) (uM.out _))) | (go_at_call 22; exact bel_call (Nat.le_refl _) (of_any ⟨#[]⟩ false 0 0 0 a b c (.slice none 0 0) ⟨#[]⟩ kp _)) | (go_at_call 23; exact bel_call (Nat.le_refl _) (rof_any ⟨#[]⟩ false 0 0 0 a b c (.slice none 0 0) ⟨#[]⟩ kp _)) | (go_at_call 13; exact bel_call (Nat.le_refl _) (same_self _ _ _ _ _ _ _ _)))))
  refine wpQuiet_nil ?_
  rintro w9 ⟨⟨_, hb9⟩, rfl⟩
  have hB9 := hB1.trans (hb9.mono hB1.size)
  go_wp2
  go_ret
  exact ⟨rfl, hB9⟩

theorem ps : ∀ t ∈ Tryd.f6.params.toList, Tryd.prog.readableRec t = true ∧ t < Tryd.prog.types.size := by
  rw [Tryd.params6]
  intro t ht
  simp at ht
  rcases ht with rfl | rfl
  all_goals exact ⟨by kernel_rfl, of_decide_eq_true (by kernel_rfl)⟩

set_option maxRecDepth 100000 in
theorem lifted (os : Os) (started : os.Started) (H : Type) (enc : TypeId × Value → H) :
    ReturnsInHanded {} Tryd.checked os 6 .any (fun w args => (Rows.controlOfSpec.pre enc Tryd.prog Tryd.f6 [] false w args ∧ laidMetH Tryd.prog laidL w) ∧ sizedMet enc Tryd.prog Tryd.f6 (OpenSpec.ofChange Rows.controlOfSpec) false w args) (Rows.controlOfSpec.post enc Tryd.prog Tryd.f6 false true false false) := by
  refine returns_shaped (C := Tryd.checked) (X := fun w _ => laidMetH Tryd.prog laidL w) (fun _ _ _ hh h => h.of_heap hh) law_own started (by kernel_rfl) Tryd.func6
    (ChangeSpec.witness_shaped (enc := enc) (C := Tryd.checked) (os := os) (X := fun w _ => laidMetH Tryd.prog laidL w) false (World.laidAll Tryd.prog os laidL) #[.agg #[.int .i64 0, .int .i64 0, .int .i64 0], .bool false] 8 (World.laidAll_os _ _ _) (World.shaped_of_ZipB (by kernel_rfl) (by kernel_rfl)) (by kernel_rfl) (by kernel_rfl) (by kernel_rfl) (by rw [MakeChecks.laidMetH_plain _ _ _ (by kernel_rfl)]; exact laidMet_laidAll _ (by kernel_rfl) (by kernel_rfl))) ?_
  intro W base args ds gs before hval0 hW hsz hL hshp
  have hval : ∀ (j : Nat) t v, Tryd.f6.params[j]? = some t → args[j]? = some v → Value.okWide Tryd.prog W .any base t v := hval0
  have hW' := hW
  have hlt : ∀ p ∈ before, p.block < W.heap.size := fun p hp => hW.lt p hp
  obtain ⟨p, q, hA0, hV, rfl, hfz, hnd⟩ := hW
  have hA : DataW.TrodAll enc Tryd.prog W 0 (fun _ => true) true Tryd.f6.params.toList args.toList ds p := hA0
  rw [Tryd.params6] at hA hval
  obtain ⟨v0, vs0, d0, ds0, p0, q0, hargs, rfl, rfl, h0, r0⟩ := trodAll_cons hA
  obtain ⟨v1, vs1, d1, ds1, p1, q1, rfl, rfl, rfl, h1, r1⟩ := trodAll_cons r0
  obtain ⟨rfl, rfl, rfl⟩ := trodAll_nil r1
  obtain rfl : args = #[v0, v1] := by cases args; simp_all
  obtain ⟨rfl, rfl⟩ := trodVars_none hV
  obtain ⟨a, b, c, rfl, ha, hb, hc⟩ := open_three_arg (hval 0 35 v0 rfl rfl) h0
  obtain ⟨kp, rfl, rfl, rfl⟩ := open_bool Tryd.underlying4 (hval 1 4 v1 rfl rfl) h1
  clear hA0 hval0
  refine (walk a b c kp W (tab_of_laid hL) (max_of_shaped hshp)).mono fun e W' ⟨he, hb⟩ => ?_
  subst he
  exact ⟨_, rfl, law_close hW' rfl rfl rfl ps hb⟩

theorem row : Rows.ControlOfSaid :=
  OpenClaim.holds_of_wide 6 Tryd.f6 rfl rfl rfl rfl rfl rfl rfl ⟨rfl, rfl, rfl, rfl, rfl⟩ rfl rfl rfl rfl rfl (by kernel_rfl) Tryd.func6 (by kernel_rfl)
    (of_decide_eq_true (by kernel_rfl)) (by unfold Func.isWrapper; first | (rw [if_pos (by decide +kernel)]; kernel_rfl) | (rw [if_neg (by decide +kernel)]; exact ⟨rfl, rfl⟩))
    (fun os started H enc _ => lifted os started H enc)
theorem proved : Rows.ControlOfCardSaid :=
  Claim7.holds_tied_plain_at .later [] [.data, .data, .data, .data, .pinned] true (true, "47bf4a7fe6062e09cc840642f666f4950bf45abcb44de0de44643b9d1afe0cfc") false
    row (fun _ h => by cases h) (by kernel_rfl) (fun _ h => by cases h) controlOf_row_tie rfl ⟨rfl, rfl⟩ (by kernel_rfl) rfl
    (fun f fn hf hfn => by
      obtain rfl : f = 6 := Option.some.inj ((show Tryd.prog.funcNamed "mandoline/mandolinelaw09.ControlOf" = some 6 by kernel_rfl).symm.trans hf) |>.symm
      obtain rfl : fn = Tryd.f6 := (Option.some.inj (Tryd.func6.symm.trans hfn)).symm
      exact ⟨by kernel_rfl, fun j t ht => by
        rw [Tryd.params6] at ht
        have hm : t ∈ [35, 4] := by simpa using Array.mem_of_getElem? ht
        have hall : ([35, 4].all fun u => !Tryd.prog.wantsStandIn u) = true := by kernel_rfl
        exact (show Tryd.prog.wantsStandIn t = false by simpa using List.all_eq_true.1 hall t hm)⟩)
    (by kernel_rfl)
#print axioms proved

end Go.Proofs.YtkkhiahdmlmecaaDoor.controlOf
