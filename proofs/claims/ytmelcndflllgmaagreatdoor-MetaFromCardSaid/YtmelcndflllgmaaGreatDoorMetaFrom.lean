/-
  What any fields say of a version is what the reference says: for every list of fields.
-/
import Derived.Test.YtmelcndflllgmaaGreatDoorGrFu
import Derived.Test.YtmelcndflllgmaaGreatDoorGrM
import Derived.Test.YtmelcndflllgmaaGreatDoorGrO
import Derived.Test.YtmelcndflllgmaaGreatDoorGrL
import Derived.Test.YtmelcndflllgmaaGreatDoorTie
import Derived.Test.YtmelcndflllgmaaGreatDoorCards
import Derived.SevenTiedAt
import Derived.Deep.DeepCutAuto
import Derived.Deep.RegionHeld3
import Derived.Test.YtmelcndflllgmaaGreatDoorGrU
namespace Go.Proofs.YtmelcndflllgmaaGreatDoor.metaFrom
open Go.ChangeShapes Go.WideShapes Go.ChangeAt Go.RowKit Go.Deep
set_option linter.unusedVariables false
set_option linter.unusedSimpArgs false

set_option maxRecDepth 100000 in
set_option maxHeartbeats 16000000 in
theorem walk (v : Value) (l : List FieldL) (w : World) (hT : Tab w) (hM : MaxI w.heap.size w) (hr : RdL LF w w.heap.size v l) (hz : ∀ f ∈ l, f.1.length ≤ 140737488351232 ∧ f.2.length ≤ 140737488351232) : Calls Tryz.prog 3 #[v] w (BoolOk true w) := by
  have HT := hide hT
  have HM := hide hM
  clear hT hM
  have HR := hide hr
  have HZ := hide hz
  clear hr hz
  go_enter Tryz.func3, Tryz.ntmps3
  go_wp2_with fail
  refine (wakes_any w HT.out).mono ?_
  rintro e w1 ⟨rfl, hB1⟩
  go_wp2_with fail
  refine (great_any v l w1 ((HR.out.below hB1).mono hB1.size) HZ.out).mono ?_
  rintro e w2 ⟨r, rfl, hb2, hg⟩
  have hB2 := hB1.trans (hb2.mono hB1.size)
  cases r
  · obtain ⟨h130, hsum⟩ := hg rfl
    clear hg
    have hz1 : ∀ f ∈ l, f.1.length ≤ 1000000 := fun f hf => by have := sumF_mem hf; omega
    have hz2 : ∀ f ∈ l, f.2.length ≤ 1000000 := fun f hf => by have := sumF_mem hf; omega
    go_wp2_with fail
    refine (cfrom_any v l w2 ((HM.out.below hB2).mono hB2.size) ((HR.out.below hB2).mono hB2.size) hz1 hz2 (by omega) (by omega)).mono ?_
    intro e w3 hgot
    obtain ⟨hb3, m1, a1, er1, x1, rfl, hx1, hs1, ht1⟩ := told_of hz2 hgot
    clear hgot
    have hB3 := hB2.trans (hb3.mono hB2.size)
    obtain ⟨kv1, hx1', hk1⟩ := hx1
    subst hx1'
    obtain ⟨A1, c1, hkf1, _, _⟩ := hk1.form
    subst hkf1
    go_upto_region 6 with fail
    obtain ⟨w4, hw4⟩ : ∃ W : World, W = w3.alloc (.cells #[.string ⟨m1.t.1.toArray⟩, .bool m1.t.2, .int .i64 m1.md, .int .i64 m1.ln, .int .i64 m1.hv, .int .i64 m1.fr, .int .i64 m1.wh, .int .i64 m1.er, .slice A1 m1.ks.length c1, .string ⟨m1.tn.toArray⟩, .bool m1.kp] 29) := ⟨_, rfl⟩
    first | rw [← hw4] | skip
    have T : Blk w4 w3.heap.size 29 #[.string ⟨m1.t.1.toArray⟩, .bool m1.t.2, .int .i64 m1.md, .int .i64 m1.ln, .int .i64 m1.hv, .int .i64 m1.fr, .int .i64 m1.wh, .int .i64 m1.er, .slice A1 m1.ks.length c1, .string ⟨m1.tn.toArray⟩, .bool m1.kp] := by rw [hw4]; exact Blk.new _ _ _
    have hb4 : Below w3.heap.size w3 w4 := by rw [hw4]; exact (Below.refl _ _).alloc (Nat.le_refl _) _
    have hm1 : MetaAt w4 (.agg #[.string ⟨m1.t.1.toArray⟩, .bool m1.t.2, .int .i64 m1.md, .int .i64 m1.ln, .int .i64 m1.hv, .int .i64 m1.fr, .int .i64 m1.wh, .int .i64 m1.er, .slice A1 m1.ks.length c1, .string ⟨m1.tn.toArray⟩, .bool m1.kp]) m1 := MetaAt.below ⟨_, rfl, hk1⟩ hb4
    have hB4 := hB3.trans (hb4.mono hB3.size)
    clear hw4 hk1
    go_wp2_with fail
    refine (rfrom_any v l w4 ((HR.out.below hB4).mono hB4.size) hz1 hz2 (by omega) (by omega)).mono ?_
    intro e w5 hgot
    obtain ⟨hb5, m2, a2, er2, x2, rfl, hx2, hs2, ht2⟩ := told_of hz2 hgot
    clear hgot
    have hB5 := hB4.trans (hb5.mono hB4.size)
    obtain ⟨rfl, rfl, rfl⟩ := ht1.uniq ht2
    replace T := T.below hb5 T.lt
    replace hm1 := hm1.below hb5
    obtain ⟨kv2, hx2', hk2⟩ := hx2
    subst hx2'
    obtain ⟨A2, c2, hkf2, _, _⟩ := hk2.form
    subst hkf2
    go_upto_region 7 with fail
    obtain ⟨w6, hw6⟩ : ∃ W : World, W = w5.alloc (.cells #[.string ⟨m1.t.1.toArray⟩, .bool m1.t.2, .int .i64 m1.md, .int .i64 m1.ln, .int .i64 m1.hv, .int .i64 m1.fr, .int .i64 m1.wh, .int .i64 m1.er, .slice A2 m1.ks.length c2, .string ⟨m1.tn.toArray⟩, .bool m1.kp] 29) := ⟨_, rfl⟩
    first | rw [← hw6] | skip
    have U : Blk w6 w5.heap.size 29 #[.string ⟨m1.t.1.toArray⟩, .bool m1.t.2, .int .i64 m1.md, .int .i64 m1.ln, .int .i64 m1.hv, .int .i64 m1.fr, .int .i64 m1.wh, .int .i64 m1.er, .slice A2 m1.ks.length c2, .string ⟨m1.tn.toArray⟩, .bool m1.kp] := by rw [hw6]; exact Blk.new _ _ _
    have hb6 : Below w5.heap.size w5 w6 := by rw [hw6]; exact (Below.refl _ _).alloc (Nat.le_refl _) _
    have hm2 : MetaAt w6 (.agg #[.string ⟨m1.t.1.toArray⟩, .bool m1.t.2, .int .i64 m1.md, .int .i64 m1.ln, .int .i64 m1.hv, .int .i64 m1.fr, .int .i64 m1.wh, .int .i64 m1.er, .slice A2 m1.ks.length c2, .string ⟨m1.tn.toArray⟩, .bool m1.kp]) m1 := MetaAt.below ⟨_, rfl, hk2⟩ hb6
    have hB6 := hB5.trans (hb6.mono hB5.size)
    clear hw6 hk2
    replace T := T.below hb6 T.lt
    replace hm1 := hm1.below hb6
    have HM1 := hide hm1
    have HM2 := hide hm2
    have HS1 := hide hs1
    clear hm1 hm2 hs1 hs2 ht1 ht2 hz1 hz2
    have cT := T.cell
    have cU := U.cell
    go_wp2_with fail
    refine (rmsame_at _ _ m1 w6 HS1.out HM1.out HM2.out).mono ?_
    rintro e w7 ⟨rfl, hb7⟩
    have hB7 := hB6.trans (hb7.mono hB6.size)
    go_wp2_with fail
    go_ret
    exact ⟨rfl, hB7⟩
  · clear hg
    go_wp2_with fail
    go_ret
    exact ⟨rfl, hB2⟩

theorem ps : ∀ t ∈ Tryz.f3.params.toList, Tryz.prog.readableRec t = true ∧ t < Tryz.prog.types.size := by
  rw [Tryz.params3]
  intro t ht
  obtain rfl : t = _ := by simpa using ht
  exact ⟨by kernel_rfl, of_decide_eq_true (by kernel_rfl)⟩

set_option maxRecDepth 100000 in
theorem lifted (os : Os) (started : os.Started) (H : Type) (enc : TypeId × Value → H) :
    ReturnsInHanded {} Tryz.checked os 3 .any (fun w args => (Rows.metaFromSpec.pre enc Tryz.prog Tryz.f3 [] false w args ∧ laidMetH Tryz.prog laidL w) ∧ sizedMet enc Tryz.prog Tryz.f3 (OpenSpec.ofChange Rows.metaFromSpec) false w args) (Rows.metaFromSpec.post enc Tryz.prog Tryz.f3 false true false false) := by
  refine returns_shaped (C := Tryz.checked) (X := fun w _ => laidMetH Tryz.prog laidL w) (fun _ _ _ hh h => h.of_heap hh) law_own started (by kernel_rfl) Tryz.func3
    (ChangeSpec.witness_shaped (enc := enc) (C := Tryz.checked) (os := os) (X := fun w _ => laidMetH Tryz.prog laidL w) false (World.laidAll Tryz.prog os laidL) #[.slice none 0 0] 8 (World.laidAll_os _ _ _) (World.shaped_of_ZipB (by kernel_rfl) (by kernel_rfl)) (by kernel_rfl) (by kernel_rfl) (by kernel_rfl) (by rw [MakeChecks.laidMetH_plain _ _ _ (by kernel_rfl)]; exact laidMet_laidAll _ (by kernel_rfl) (by kernel_rfl))) ?_
  intro W base args ds gs before hval0 hW hsz hL hshp
  have hval : ∀ (j : Nat) t v, Tryz.f3.params[j]? = some t → args[j]? = some v → Value.okWide Tryz.prog W .any base t v := hval0
  have hW' := hW
  have hlt : ∀ p ∈ before, p.block < W.heap.size := fun p hp => hW.lt p hp
  obtain ⟨p, q, hA0, hV, rfl, hfz, hnd⟩ := hW
  have hA : DataW.TrodAll enc Tryz.prog W 0 (fun _ => true) true Tryz.f3.params.toList args.toList ds p := hA0
  rw [Tryz.params3] at hA hval
  obtain ⟨v0, vs0, d0, ds0, p0, q0, hargs, rfl, rfl, h0, r0⟩ := trodAll_cons hA
  obtain ⟨rfl, rfl, rfl⟩ := trodAll_nil r0
  obtain rfl : args = #[v0] := by cases args; simp_all
  obtain ⟨rfl, rfl⟩ := trodVars_none hV
  obtain ⟨l, hr, hz, hn⟩ := open_fields_arg (hval 0 22 v0 rfl rfl) h0 (fun n hn => by have := List.all_eq_true.1 hsz n (DataW.weights_mem_each (j := 0) (by rw [Tryz.params3]; rfl) rfl n hn); simpa using this)
  clear hA0 hval0
  refine (walk _ l W (tab_of_laid hL) (max_of_shaped hshp) hr hz).mono fun e W' ⟨he, hb⟩ => ?_
  subst he
  exact ⟨_, rfl, law_close hW' rfl rfl rfl ps hb⟩

theorem row : Rows.MetaFromSaid :=
  OpenClaim.holds_of_wide 3 Tryz.f3 rfl rfl rfl rfl rfl rfl rfl ⟨rfl, rfl, rfl, rfl, rfl⟩ rfl rfl rfl rfl rfl (by kernel_rfl) Tryz.func3 (by kernel_rfl)
    (of_decide_eq_true (by kernel_rfl)) (by unfold Func.isWrapper; first | (rw [if_pos (by decide +kernel)]; kernel_rfl) | (rw [if_neg (by decide +kernel)]; exact ⟨rfl, rfl⟩))
    (fun os started H enc _ => lifted os started H enc)
theorem proved : Rows.MetaFromCardSaid :=
  Claim7.holds_tied_plain_at .later [] [.data, .data, .data, .data, .pinned] true (true, "7340c533c8eb8e8a62430c914fc76980a60cf950c74b93a996abb7963db00861") false
    row (fun _ h => by cases h) (by kernel_rfl) (fun _ h => by cases h) metaFrom_row_tie rfl ⟨rfl, rfl⟩ (by kernel_rfl) rfl
    (fun f fn hf hfn => by
      obtain rfl : f = 3 := Option.some.inj ((show Tryz.prog.funcNamed "mandoline/mandolinelaw14.MetaFrom" = some 3 by kernel_rfl).symm.trans hf) |>.symm
      obtain rfl : fn = Tryz.f3 := (Option.some.inj (Tryz.func3.symm.trans hfn)).symm
      exact ⟨by kernel_rfl, fun j t ht => by
        rw [Tryz.params3] at ht
        have hm : t ∈ [22] := by simpa using Array.mem_of_getElem? ht
        have hall : ([22].all fun u => !Tryz.prog.wantsStandIn u) = true := by kernel_rfl
        exact (show Tryz.prog.wantsStandIn t = false by simpa using List.all_eq_true.1 hall t hm)⟩)
    (by kernel_rfl)
#print axioms proved

end Go.Proofs.YtmelcndflllgmaaGreatDoor.metaFrom
