/-
  Any rule has the text that the reference says: for every rule.
-/
import Derived.Test.YtkkhiahdmlmecaaDoorCtlX
import Derived.Test.YtkkhiahdmlmecaaDoorRcpF
import Derived.Test.YtkkhiahdmlmecaaDoorRcpG
import Derived.Test.YtkkhiahdmlmecaaDoorRctC
import Derived.Test.YtkkhiahdmlmecaaDoorCpN
import Derived.Test.YtkkhiahdmlmecaaDoorOpenS
import Derived.Test.YtkkhiahdmlmecaaDoorLiftS
import Derived.Test.YtkkhiahdmlmecaaDoorTie
import Derived.Test.YtkkhiahdmlmecaaDoorCards
import Derived.SevenTiedAt
import Derived.Deep.DeepCutAuto
import Derived.Deep.RegionHeld3
import Derived.Test.YtkkhiahdmlmecaaDoorQuiet
namespace Go.Proofs.YtkkhiahdmlmecaaDoor.controlTexts
open Go.ChangeShapes Go.WideShapes Go.ChangeAt Go.RowKit Go.Deep
set_option linter.unusedVariables false
set_option linter.unusedSimpArgs false

set_option maxRecDepth 100000 in
set_option maxHeartbeats 8000000 in
theorem walk (mx sh wh er : Int) (ns nc pv : Bool) (w : World) (hT : Tab w) (hM : MaxI w.heap.size w) (hmx : inI mx) (hsh : inI sh) (hwh : inI wh) (her : inI er) : Calls Tryd.prog 4 #[.agg #[.int .i64 mx, .int .i64 sh, .int .i64 wh, .int .i64 er, .bool ns, .bool nc, .bool pv]] w (BoolOk true w) := by
  have HT := hide hT
  have HM := hide hM
  clear hT hM
  obtain ⟨tx, htx⟩ : ∃ tx : ByteArray, tx = ⟨(ctlText mx sh wh er ns nc pv).toArray⟩ := ⟨_, rfl⟩
  have HC1 := hide (fun (W : World) (h : Tab W) => (ctl_text mx sh wh er ns nc pv W h hmx hsh hwh her : Calls Tryd.prog 16 _ _ _))
  have HC2 := hide (fun (W : World) => (rctl_text mx sh wh er ns nc pv W hmx hsh hwh her : Calls Tryd.prog 18 _ _ _))
  have HS : ∀ W, StrIs (ctlText mx sh wh er ns nc pv) W = fun e w' => e = .returned (.string tx) ∧ Below W.heap.size W w' := fun W => by rw [htx]; rfl
  simp only [HS] at HC1 HC2
  clear HS htx hmx hsh hwh her
  have ge : (tx.toList == tx.toList) = true := by simp
  go_enter Tryd.func4, Tryd.ntmps4
  go_upto_region 1 with fail
  obtain ⟨w1, hw1⟩ : ∃ w1 : World, w1 = (w).alloc (.cells #[.int .i64 mx, .int .i64 sh, .int .i64 wh, .int .i64 er, .bool ns, .bool nc, .bool pv] 29) := ⟨_, rfl⟩
  rw [← hw1]
  have hB1 : Below w.heap.size w w1 := by rw [hw1]; exact ((Below.refl _ _).alloc (Nat.le_refl _) _)
  have T : Blk w1 (w.heap.size) 29 #[.int .i64 mx, .int .i64 sh, .int .i64 wh, .int .i64 er, .bool ns, .bool nc, .bool pv] := by rw [hw1]; exact (Blk.new _ _ _)
  clear hw1
  have cT := T.cell
  have qT : ∀ (x : Bel w1.heap.size w1) i, x.w.cell? ⟨w.heap.size, i, none⟩ = (#[.int .i64 mx, .int .i64 sh, .int .i64 wh, .int .i64 er, .bool ns, .bool nc, .bool pv] : Array Value)[i]? := fun x i => (T.below x.h T.lt).cell i
  have uT := hide (show ∀ x : Bel w1.heap.size w1, Tab x.w from fun x => HT.out.below (hB1.trans (x.h.mono hB1.size)))
  have uM := hide (show ∀ x : Bel w1.heap.size w1, MaxI x.w.heap.size x.w from fun x => (HM.out.below (hB1.trans (x.h.mono hB1.size))).mono (hB1.trans (x.h.mono hB1.size)).size)
  clear cT
  refine wp_region_bel w1.heap.size (by kernel_rfl) (by kernel_rfl) ?_
  repeat (go_big_quiet_step ((first | (go_at_call 11; exact bel_call (Nat.le_refl _) (awake9 _ (uT.out _) (uM.out _))) | (go_at_call 17; exact bel_call (Nat.le_refl _) (own_any _ _ _ _ _ _ _ _)) | (go_at_call 16; exact bel_call (Nat.le_refl _) (HC1.out _ (uT.out _))) | (go_at_call 18; exact bel_call (Nat.le_refl _) (HC2.out _)))))
  refine wpQuiet_nil ?_
  rintro w9 ⟨⟨_, hb9⟩, rfl⟩
  have hB9 := hB1.trans (hb9.mono hB1.size)
  go_wp2
  go_ret
  exact ⟨rfl, hB9⟩

theorem ps : ∀ t ∈ Tryd.f4.params.toList, Tryd.prog.readableRec t = true ∧ t < Tryd.prog.types.size := by
  rw [Tryd.params4]
  intro t ht
  obtain rfl : t = _ := by simpa using ht
  exact ⟨by kernel_rfl, of_decide_eq_true (by kernel_rfl)⟩

set_option maxRecDepth 100000 in
theorem lifted (os : Os) (started : os.Started) (H : Type) (enc : TypeId × Value → H) :
    ReturnsInHanded {} Tryd.checked os 4 .any (fun w args => (Rows.controlTextsSpec.pre enc Tryd.prog Tryd.f4 [] false w args ∧ laidMetH Tryd.prog laidL w) ∧ sizedMet enc Tryd.prog Tryd.f4 (OpenSpec.ofChange Rows.controlTextsSpec) false w args) (Rows.controlTextsSpec.post enc Tryd.prog Tryd.f4 false true false false) := by
  refine returns_shaped (C := Tryd.checked) (X := fun w _ => laidMetH Tryd.prog laidL w) (fun _ _ _ hh h => h.of_heap hh) law_own started (by kernel_rfl) Tryd.func4
    (ChangeSpec.witness_shaped (enc := enc) (C := Tryd.checked) (os := os) (X := fun w _ => laidMetH Tryd.prog laidL w) false (World.laidAll Tryd.prog os laidL) #[.agg #[.int .i64 0, .int .i64 0, .int .i64 0, .int .i64 0, .bool false, .bool false, .bool false]] 8 (World.laidAll_os _ _ _) (World.shaped_of_ZipB (by kernel_rfl) (by kernel_rfl)) (by kernel_rfl) (by kernel_rfl) (by kernel_rfl) (by rw [MakeChecks.laidMetH_plain _ _ _ (by kernel_rfl)]; exact laidMet_laidAll _ (by kernel_rfl) (by kernel_rfl))) ?_
  intro W base args ds gs before hval0 hW hsz hL hshp
  have hval : ∀ (j : Nat) t v, Tryd.f4.params[j]? = some t → args[j]? = some v → Value.okWide Tryd.prog W .any base t v := hval0
  have hW' := hW
  have hlt : ∀ p ∈ before, p.block < W.heap.size := fun p hp => hW.lt p hp
  obtain ⟨p, q, hA0, hV, rfl, hfz, hnd⟩ := hW
  have hA : DataW.TrodAll enc Tryd.prog W 0 (fun _ => true) true Tryd.f4.params.toList args.toList ds p := hA0
  rw [Tryd.params4] at hA hval
  obtain ⟨v0, vs0, d0, ds0, p0, q0, hargs, rfl, rfl, h0, r0⟩ := trodAll_cons hA
  obtain ⟨rfl, rfl, rfl⟩ := trodAll_nil r0
  obtain rfl : args = #[v0] := by cases args; simp_all
  obtain ⟨rfl, rfl⟩ := trodVars_none hV
  obtain ⟨mx, sh, wh, er, ns, nc, pv, rfl, hmx, hsh, hwh, her⟩ := open_rule_arg (hval 0 29 v0 rfl rfl) h0
  clear hA0 hval0
  refine (walk mx sh wh er ns nc pv W (tab_of_laid hL) (max_of_shaped hshp) hmx hsh hwh her).mono fun e W' ⟨he, hb⟩ => ?_
  subst he
  exact ⟨_, rfl, law_close hW' rfl rfl rfl ps hb⟩

theorem row : Rows.ControlTextsSaid :=
  OpenClaim.holds_of_wide 4 Tryd.f4 rfl rfl rfl rfl rfl rfl rfl ⟨rfl, rfl, rfl, rfl, rfl⟩ rfl rfl rfl rfl rfl (by kernel_rfl) Tryd.func4 (by kernel_rfl)
    (of_decide_eq_true (by kernel_rfl)) (by unfold Func.isWrapper; first | (rw [if_pos (by decide +kernel)]; kernel_rfl) | (rw [if_neg (by decide +kernel)]; exact ⟨rfl, rfl⟩))
    (fun os started H enc _ => lifted os started H enc)
theorem proved : Rows.ControlTextsCardSaid :=
  Claim7.holds_tied_plain_at .later [] [.data, .data, .data, .data, .pinned] true (true, "47bf4a7fe6062e09cc840642f666f4950bf45abcb44de0de44643b9d1afe0cfc") false
    row (fun _ h => by cases h) (by kernel_rfl) (fun _ h => by cases h) controlTexts_row_tie rfl ⟨rfl, rfl⟩ (by kernel_rfl) rfl
    (fun f fn hf hfn => by
      obtain rfl : f = 4 := Option.some.inj ((show Tryd.prog.funcNamed "mandoline/mandolinelaw09.ControlTexts" = some 4 by kernel_rfl).symm.trans hf) |>.symm
      obtain rfl : fn = Tryd.f4 := (Option.some.inj (Tryd.func4.symm.trans hfn)).symm
      exact ⟨by kernel_rfl, fun j t ht => by
        rw [Tryd.params4] at ht
        have hm : t ∈ [29] := by simpa using Array.mem_of_getElem? ht
        have hall : ([29].all fun u => !Tryd.prog.wantsStandIn u) = true := by kernel_rfl
        exact (show Tryd.prog.wantsStandIn t = false by simpa using List.all_eq_true.1 hall t hm)⟩)
    (by kernel_rfl)
#print axioms proved

end Go.Proofs.YtkkhiahdmlmecaaDoor.controlTexts
