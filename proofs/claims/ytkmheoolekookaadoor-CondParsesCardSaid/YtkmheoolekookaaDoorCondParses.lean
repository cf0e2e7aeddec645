/-
  The conditions of any fields, or why there are none, are what the reference says: for every list of fields.
-/
import Derived.Test.YtkmheoolekookaaDoorCndE
import Derived.Test.YtkmheoolekookaaDoorCondE
import Derived.Test.YtkmheoolekookaaDoorGrO
import Derived.Test.YtkmheoolekookaaDoorGrL
import Derived.Test.YtkmheoolekookaaDoorTie
import Derived.Test.YtkmheoolekookaaDoorCards
import Derived.SevenTiedAt
import Derived.Deep.DeepCutAuto
import Derived.Deep.RegionHeld3
import Derived.Test.YtkmheoolekookaaDoorGrU
namespace Go.Proofs.YtkmheoolekookaaDoor.condParses
open Go.ChangeShapes Go.WideShapes Go.ChangeAt Go.RowKit Go.Deep
set_option linter.unusedVariables false
set_option linter.unusedSimpArgs false

set_option maxRecDepth 100000 in
set_option maxHeartbeats 16000000 in
theorem walk (v : Value) (l : List FieldL) (w : World) (hr : RdL LF w w.heap.size v l) (hz : ∀ f ∈ l, f.1.length ≤ 9223372036854775807 ∧ f.2.length ≤ 9223372036854775807) : Calls Tryd.prog 3 #[v] w (BoolOk true w) := by
  obtain ⟨A, k, rfl, hlc, hc⟩ := hr.form
  have HR := hide hr
  clear hr
  go_enter Tryd.func3, Tryd.ntmps3
  go_wp2_with fail
  refine (fits_any _ l 12 500 _ HR.out hz (by decide)).mono ?_
  rintro e w1 ⟨r, rfl, hB1, hg⟩
  cases r
  · clear hg
    go_wp2_with fail
    refine (awake8 _).mono ?_
    rintro e w2 ⟨rfl, hb2⟩
    have hB2 := hB1.trans (hb2.mono hB1.size)
    go_wp2_with fail
    go_ret
    exact ⟨rfl, hB2⟩
  · obtain ⟨hl12, hsum⟩ := hg rfl
    clear hg
    go_wp2_with fail
    refine (cparse8_any _ l _ ((HR.out.below hB1).mono hB1.size) (fun f hf => by have := sumF_mem hf; omega) (by omega) (by omega)).mono ?_
    rintro e w2 ⟨cv, c, n, rfl, hi, ⟨p, q, x, rfl, hx, hp, hq⟩, hb2⟩
    have hB2 := hB1.trans (hb2.mono hB1.size)
    obtain ⟨Ap, kp, hp', _, _⟩ := hp.form
    subst hp'
    obtain ⟨Aq, kq, hq', _, _⟩ := hq.form
    subst hq'
    go_upto_region 4 with fail
    obtain ⟨w3, hw3⟩ : ∃ W : World, W = w2.alloc (.cells #[.slice Ap c.ms.length kp, .slice Aq c.ns.length kq, .bool c.am, .bool c.an, .int .i64 c.si, .int .i64 c.un, .string x, .bool c.rt.2] 29) := ⟨_, rfl⟩
    first | rw [← hw3] | skip
    have hb3 : Below w2.heap.size w2 w3 := by rw [hw3]; exact (Below.refl _ _).alloc (Nat.le_refl _) _
    have T : Blk w3 w2.heap.size 29 #[.slice Ap c.ms.length kp, .slice Aq c.ns.length kq, .bool c.am, .bool c.an, .int .i64 c.si, .int .i64 c.un, .string x, .bool c.rt.2] := by rw [hw3]; exact Blk.new _ _ _
    have hB3 := hB2.trans (hb3.mono hB2.size)
    have HC : Hid (CondAt w3 (.agg #[.slice Ap c.ms.length kp, .slice Aq c.ns.length kq, .bool c.am, .bool c.an, .int .i64 c.si, .int .i64 c.un, .string x, .bool c.rt.2]) c) := CondAt.below ⟨_, _, _, rfl, hx, hp, hq⟩ hb3
    clear hw3 hp hq hx hb3
    go_wp2_with fail
    refine (rparse8_any _ l _ ((HR.out.below hB3).mono hB3.size) (fun f hf => by have := sumF_mem hf; omega) (by omega) (by omega)).mono ?_
    rintro e w4 ⟨cv2, c2, n2, rfl, hi2, ⟨p2, q2, x2, rfl, hx2, hp2, hq2⟩, hb4⟩
    have hB4 := hB3.trans (hb4.mono hB3.size)
    obtain ⟨rfl, rfl⟩ := hi.uniq hi2
    replace T := T.below hb4 T.lt
    have HC' := hide (HC.out.below hb4)
    clear HC
    have HC := HC'
    clear HC'
    obtain ⟨Ap2, kp2, hp2', _, _⟩ := hp2.form
    subst hp2'
    obtain ⟨Aq2, kq2, hq2', _, _⟩ := hq2.form
    subst hq2'
    go_upto_region 5 with fail
    obtain ⟨w5, hw5⟩ : ∃ W : World, W = w4.alloc (.cells #[.slice Ap2 c.ms.length kp2, .slice Aq2 c.ns.length kq2, .bool c.am, .bool c.an, .int .i64 c.si, .int .i64 c.un, .string x2, .bool c.rt.2] 29) := ⟨_, rfl⟩
    first | rw [← hw5] | skip
    have hb5 : Below w4.heap.size w4 w5 := by rw [hw5]; exact (Below.refl _ _).alloc (Nat.le_refl _) _
    have T2 : Blk w5 w4.heap.size 29 #[.slice Ap2 c.ms.length kp2, .slice Aq2 c.ns.length kq2, .bool c.am, .bool c.an, .int .i64 c.si, .int .i64 c.un, .string x2, .bool c.rt.2] := by rw [hw5]; exact Blk.new _ _ _
    have hB5 := hB4.trans (hb5.mono hB4.size)
    have HC2 : Hid (CondAt w5 (.agg #[.slice Ap2 c.ms.length kp2, .slice Aq2 c.ns.length kq2, .bool c.am, .bool c.an, .int .i64 c.si, .int .i64 c.un, .string x2, .bool c.rt.2]) c) := CondAt.below ⟨_, _, _, rfl, hx2, hp2, hq2⟩ hb5
    have HC' := hide (HC.out.below hb5)
    clear HC
    have HC := HC'
    clear HC'
    have T' := T.below hb5 T.lt
    replace T := T'
    clear T'
    clear hw5 hp2 hq2 hx2 hb5
    have cT := T.cell
    have cT2 := T2.cell
    go_wp2_with fail
    refine (same8_at _ _ c w5 HC.out HC2.out).mono ?_
    rintro e w6 ⟨rfl, hb6⟩
    have hB6 := hB5.trans (hb6.mono hB5.size)
    go_wp2_with fail
    refine (awake8 _).mono ?_
    rintro e w7 ⟨rfl, hb7⟩
    have hB7 := hB6.trans (hb7.mono hB6.size)
    go_wp2_with fail
    go_ret
    exact ⟨rfl, hB7⟩

theorem ps : ∀ t ∈ Tryd.f3.params.toList, Tryd.prog.readableRec t = true ∧ t < Tryd.prog.types.size := by
  rw [Tryd.params3]
  intro t ht
  obtain rfl : t = _ := by simpa using ht
  exact ⟨by kernel_rfl, of_decide_eq_true (by kernel_rfl)⟩

set_option maxRecDepth 100000 in
theorem lifted (os : Os) (started : os.Started) (H : Type) (enc : TypeId × Value → H) :
    ReturnsInHanded {} Tryd.checked os 3 .any (fun w args => (Rows.condParsesSpec.pre enc Tryd.prog Tryd.f3 [] false w args ∧ laidMetH Tryd.prog laidL w) ∧ sizedMet enc Tryd.prog Tryd.f3 (OpenSpec.ofChange Rows.condParsesSpec) false w args) (Rows.condParsesSpec.post enc Tryd.prog Tryd.f3 false true false false) := by
  refine returnsInHanded_of_change_and (C := Tryd.checked) (X := fun w _ => laidMetH Tryd.prog laidL w) (fun _ _ _ hh h => h.of_heap hh) law_own started (by kernel_rfl) Tryd.func3
    (ChangeSpec.witness_shaped (enc := enc) (C := Tryd.checked) (os := os) (X := fun w _ => laidMetH Tryd.prog laidL w) false (World.laidAll Tryd.prog os laidL) #[.slice none 0 0] 8 (World.laidAll_os _ _ _) (World.shaped_of_ZipB (by kernel_rfl) (by kernel_rfl)) (by kernel_rfl) (by kernel_rfl) (by kernel_rfl) (by rw [MakeChecks.laidMetH_plain _ _ _ (by kernel_rfl)]; exact laidMet_laidAll _ (by kernel_rfl) (by kernel_rfl))) ?_
  intro W base args ds gs before hval0 hW _ hsz hL _
  have hval : ∀ (j : Nat) t v, Tryd.f3.params[j]? = some t → args[j]? = some v → Value.okWide Tryd.prog W .any base t v := hval0
  have hW' := hW
  have hlt : ∀ p ∈ before, p.block < W.heap.size := fun p hp => hW.lt p hp
  obtain ⟨p, q, hA0, hV, rfl, hfz, hnd⟩ := hW
  have hA : DataW.TrodAll enc Tryd.prog W 0 (fun _ => true) true Tryd.f3.params.toList args.toList ds p := hA0
  rw [Tryd.params3] at hA hval
  obtain ⟨v0, vs0, d0, ds0, p0, q0, hargs, rfl, rfl, h0, r0⟩ := trodAll_cons hA
  obtain ⟨rfl, rfl, rfl⟩ := trodAll_nil r0
  obtain rfl : args = #[v0] := by cases args; simp_all
  obtain ⟨rfl, rfl⟩ := trodVars_none hV
  obtain ⟨l, hr, hz, hn⟩ := open_fields_arg (hval 0 22 v0 rfl rfl) h0 (fun n hn => by have := List.all_eq_true.1 hsz n (DataW.weights_mem_each (j := 0) (by rw [Tryd.params3]; rfl) rfl n hn); simpa using this)
  clear hA0 hval0
  refine (walk _ l W hr (fun f hf => by have := hz f hf; omega)).mono fun e W' ⟨he, hb⟩ => ?_
  subst he
  exact ⟨_, rfl, law_close hW' rfl rfl rfl ps hb⟩

theorem row : Rows.CondParsesSaid :=
  OpenClaim.holds_of_wide 3 Tryd.f3 rfl rfl rfl rfl rfl rfl rfl ⟨rfl, rfl, rfl, rfl, rfl⟩ rfl rfl rfl rfl rfl (by kernel_rfl) Tryd.func3 (by kernel_rfl)
    (of_decide_eq_true (by kernel_rfl)) (by unfold Func.isWrapper; first | (rw [if_pos (by decide +kernel)]; kernel_rfl) | (rw [if_neg (by decide +kernel)]; exact ⟨rfl, rfl⟩))
    (fun os started H enc _ => lifted os started H enc)
theorem proved : Rows.CondParsesCardSaid :=
  Claim7.holds_tied_plain_at .later [] [.data, .pinned] true (true, "6ae73031020a7ecdf35eb6afe271d5ad3d756c5236a3ab680dcad54f85cf945c") false
    row (fun _ h => by cases h) (by kernel_rfl) (fun _ h => by cases h) condParses_row_tie rfl ⟨rfl, rfl⟩ (by kernel_rfl) rfl
    (fun f fn hf hfn => by
      obtain rfl : f = 3 := Option.some.inj ((show Tryd.prog.funcNamed "mandoline/mandolinelaw08.CondParses" = some 3 by kernel_rfl).symm.trans hf) |>.symm
      obtain rfl : fn = Tryd.f3 := (Option.some.inj (Tryd.func3.symm.trans hfn)).symm
      exact ⟨by kernel_rfl, fun j t ht => by
        rw [Tryd.params3] at ht
        have hm : t ∈ [22] := by simpa using Array.mem_of_getElem? ht
        have hall : ([22].all fun u => !Tryd.prog.wantsStandIn u) = true := by kernel_rfl
        exact (show Tryd.prog.wantsStandIn t = false by simpa using List.all_eq_true.1 hall t hm)⟩)
    (by kernel_rfl)
#print axioms proved

end Go.Proofs.YtkmheoolekookaaDoor.condParses
