/-
  Any two tags are one, strictly and loosely, or not, as the reference says, either way round: for every two tags.
-/
import Derived.Test.YtnipbhmacfnjfaaDoorTagZ
import Derived.Test.YtnipbhmacfnjfaaDoorTagU
import Derived.Test.YtnipbhmacfnjfaaDoorTagR
import Derived.Test.YtnipbhmacfnjfaaDoorOpenT
import Derived.Test.YtnipbhmacfnjfaaDoorOpenC
import Derived.Test.YtnipbhmacfnjfaaDoorLaidT
import Derived.Test.YtnipbhmacfnjfaaDoorLift
import Derived.Test.YtnipbhmacfnjfaaDoorTie
import Derived.Test.YtnipbhmacfnjfaaDoorCards
import Derived.SevenTiedAt
import Derived.Deep.DeepCutAuto
import Derived.Deep.RegionHeld3
namespace Go.Proofs.YtnipbhmacfnjfaaDoor.tagSame
open Go.ChangeShapes Go.WideShapes Go.ChangeAt Go.RowKit Go.Deep
set_option linter.unusedVariables false
set_option linter.unusedSimpArgs false

theorem rstrong_lit {s t : ByteArray} {a b r : Bool} (h : strongB (s, a) (t, b) = r) (w : World) (hs : s.size ≤ 9223372036854775807) (ht : t.size ≤ 9223372036854775807) : Calls Tryd.prog 27 #[.agg #[.string s, .bool a], .agg #[.string t, .bool b]] w fun e w' => e = .returned (.bool r) ∧ Below w.heap.size w w' := h ▸ rtag_strong s t a b w hs ht
theorem rweak_lit {s t : ByteArray} {a b r : Bool} (h : weakB (s, a) (t, b) = r) (w : World) (hs : s.size ≤ 9223372036854775807) (ht : t.size ≤ 9223372036854775807) : Calls Tryd.prog 29 #[.agg #[.string s, .bool a], .agg #[.string t, .bool b]] w fun e w' => e = .returned (.bool r) ∧ Below w.heap.size w w' := h ▸ rtag_weak s t a b w hs ht
theorem weakB_comm (s t : Tag) : weakB s t = weakB t s := by
  unfold weakB
  rw [Bool.and_comm (tagOk s.1), show (s.1.toList == t.1.toList) = (t.1.toList == s.1.toList) from Bool.eq_iff_iff.2 (by rw [beq_iff_eq, beq_iff_eq]; exact eq_comm)]
theorem strongB_comm (s t : Tag) : strongB s t = strongB t s := by
  unfold strongB
  rw [weakB_comm s t, Bool.and_comm (!s.2)]
theorem strong_parts {x y : ByteArray} {a b : Bool} (h : strongB (x, a) (y, b) = true) : a = false ∧ b = false ∧ (x.toList == y.toList) = true ∧ weakB (x, a) (y, b) = true := by
  unfold strongB at h
  simp only [Bool.and_eq_true, Bool.not_eq_true'] at h
  refine ⟨h.1.1, h.1.2, ?_, h.2⟩
  have := h.2
  unfold weakB at this
  simp only [Bool.and_eq_true] at this
  exact this.2

set_option maxRecDepth 100000 in
set_option maxHeartbeats 2000000 in
theorem walk (x y : ByteArray) (a b : Bool) (w : World) (hx : x.size ≤ 9223372036854775807) (hy : y.size ≤ 9223372036854775807) : Calls Tryd.prog 7 #[.agg #[.string x, .bool a], .agg #[.string y, .bool b]] w (BoolOk true w) := by
  go_enter Tryd.func7, Tryd.ntmps7
  go_wp2_with fail
  obtain ⟨w1, hw1⟩ : ∃ w1 : World, w1 = ((w).alloc (.cells #[.string x, .bool a] 23)).alloc (.cells #[.string y, .bool b] 23) := ⟨_, rfl⟩
  rw [← hw1]
  have hB1 : Below w.heap.size w w1 := by rw [hw1]; exact (((Below.refl _ _).alloc (Nat.le_refl _) _).alloc (by simp; try omega) _)
  have S : Blk w1 (w.heap.size) 23 #[.string x, .bool a] := by rw [hw1]; exact ((Blk.new _ _ _).alloc _)
  have T : Blk w1 (w.heap.size + 1) 23 #[.string y, .bool b] := by rw [hw1]; exact (Blk.new' (by simp))
  clear hw1
  have cS := S.cell
  have cT := T.cell
  refine (awake5 _).mono ?_
  rintro e w2 ⟨rfl, hb2⟩
  have hB2 := hB1.trans (hb2.mono hB1.size)
  replace S := S.below hb2 S.lt
  replace T := T.below hb2 T.lt
  clear cS cT hb2
  have cS := S.cell
  have cT := T.cell
  by_cases h3 : 300 < x.size
  · have d3 : decide ((x.size : Int) > 300) = true := decide_eq_true (by omega)
    go_wp2_with fail
    refine (awake5 _).mono ?_
    rintro e w3 ⟨rfl, hb3⟩
    have hB3 := hB2.trans (hb3.mono hB2.size)
    replace S := S.below hb3 S.lt
    replace T := T.below hb3 T.lt
    clear cS cT hb3
    have cS := S.cell
    have cT := T.cell
    go_wp2_with fail
    go_ret
    exact ⟨rfl, hB3⟩
  · have d3 : decide ((x.size : Int) > 300) = false := decide_eq_false (by omega)
    by_cases h4 : 300 < y.size
    · have d4 : decide ((y.size : Int) > 300) = true := decide_eq_true (by omega)
      go_wp2_with fail
      refine (awake5 _).mono ?_
      rintro e w3 ⟨rfl, hb3⟩
      have hB3 := hB2.trans (hb3.mono hB2.size)
      replace S := S.below hb3 S.lt
      replace T := T.below hb3 T.lt
      clear cS cT hb3
      have cS := S.cell
      have cT := T.cell
      go_wp2_with fail
      go_ret
      exact ⟨rfl, hB3⟩
    · have d4 : decide ((y.size : Int) > 300) = false := decide_eq_false (by omega)
      cases hcs : strongB (x, a) (y, b)
      · cases hcw : weakB (x, a) (y, b)
        · have HS := hide hcs
          have HW := hide hcw
          have HS2 := hide ((strongB_comm _ _).trans hcs)
          have HW2 := hide ((weakB_comm _ _).trans hcw)
          clear hcs hcw
          go_upto_region 3 with fail
          have qS : ∀ (zz : Bel w2.heap.size w2) i, zz.w.cell? ⟨w.heap.size, i, none⟩ = (#[.string x, .bool a] : Array Value)[i]? := fun zz i => (S.below zz.h S.lt).cell i
          have qT : ∀ (zz : Bel w2.heap.size w2) i, zz.w.cell? ⟨w.heap.size + 1, i, none⟩ = (#[.string y, .bool b] : Array Value)[i]? := fun zz i => (T.below zz.h T.lt).cell i
          clear cS cT
          refine wp_region_bel w2.heap.size (by kernel_rfl) (by kernel_rfl) ?_
          repeat (go_big_quiet_step ((first | (go_at_call 26; exact bel_call (Nat.le_refl _) (strong_lit (r := false) (by first | exact HS.out | exact HS2.out) _ (by first | exact hx | exact hy) (by first | exact hx | exact hy))) | (go_at_call 27; exact bel_call (Nat.le_refl _) (rstrong_lit (r := false) (by first | exact HS.out | exact HS2.out) _ (by first | exact hx | exact hy) (by first | exact hx | exact hy))) | (go_at_call 28; exact bel_call (Nat.le_refl _) (weak_lit (r := false) (by first | exact HW.out | exact HW2.out) _ (by first | exact hx | exact hy) (by first | exact hx | exact hy))) | (go_at_call 29; exact bel_call (Nat.le_refl _) (rweak_lit (r := false) (by first | exact HW.out | exact HW2.out) _ (by first | exact hx | exact hy) (by first | exact hx | exact hy))))))
          refine wpQuiet_nil ?_
          rintro w99 ⟨⟨_, hb99⟩, rfl⟩
          have hB99 := hB2.trans (hb99.mono hB2.size)
          go_wp2_with fail
          go_ret
          exact ⟨rfl, hB99⟩
        · have HS := hide hcs
          have HW := hide hcw
          have HS2 := hide ((strongB_comm _ _).trans hcs)
          have HW2 := hide ((weakB_comm _ _).trans hcw)
          clear hcs hcw
          go_upto_region 3 with fail
          have qS : ∀ (zz : Bel w2.heap.size w2) i, zz.w.cell? ⟨w.heap.size, i, none⟩ = (#[.string x, .bool a] : Array Value)[i]? := fun zz i => (S.below zz.h S.lt).cell i
          have qT : ∀ (zz : Bel w2.heap.size w2) i, zz.w.cell? ⟨w.heap.size + 1, i, none⟩ = (#[.string y, .bool b] : Array Value)[i]? := fun zz i => (T.below zz.h T.lt).cell i
          clear cS cT
          refine wp_region_bel w2.heap.size (by kernel_rfl) (by kernel_rfl) ?_
          repeat (go_big_quiet_step ((first | (go_at_call 26; exact bel_call (Nat.le_refl _) (strong_lit (r := false) (by first | exact HS.out | exact HS2.out) _ (by first | exact hx | exact hy) (by first | exact hx | exact hy))) | (go_at_call 27; exact bel_call (Nat.le_refl _) (rstrong_lit (r := false) (by first | exact HS.out | exact HS2.out) _ (by first | exact hx | exact hy) (by first | exact hx | exact hy))) | (go_at_call 28; exact bel_call (Nat.le_refl _) (weak_lit (r := true) (by first | exact HW.out | exact HW2.out) _ (by first | exact hx | exact hy) (by first | exact hx | exact hy))) | (go_at_call 29; exact bel_call (Nat.le_refl _) (rweak_lit (r := true) (by first | exact HW.out | exact HW2.out) _ (by first | exact hx | exact hy) (by first | exact hx | exact hy))))))
          refine wpQuiet_nil ?_
          rintro w99 ⟨⟨_, hb99⟩, rfl⟩
          have hB99 := hB2.trans (hb99.mono hB2.size)
          go_wp2_with fail
          go_ret
          exact ⟨rfl, hB99⟩
      · obtain ⟨ra, rb, gxy, hcw⟩ := strong_parts hcs
        subst ra rb
        have HS := hide hcs
        have HW := hide hcw
        have HS2 := hide ((strongB_comm _ _).trans hcs)
        have HW2 := hide ((weakB_comm _ _).trans hcw)
        clear hcs hcw
        go_upto_region 3 with fail
        have qS : ∀ (zz : Bel w2.heap.size w2) i, zz.w.cell? ⟨w.heap.size, i, none⟩ = (#[.string x, .bool false] : Array Value)[i]? := fun zz i => (S.below zz.h S.lt).cell i
        have qT : ∀ (zz : Bel w2.heap.size w2) i, zz.w.cell? ⟨w.heap.size + 1, i, none⟩ = (#[.string y, .bool false] : Array Value)[i]? := fun zz i => (T.below zz.h T.lt).cell i
        clear cS cT
        refine wp_region_bel w2.heap.size (by kernel_rfl) (by kernel_rfl) ?_
        repeat (go_big_quiet_step ((first | (go_at_call 26; exact bel_call (Nat.le_refl _) (strong_lit (r := true) (by first | exact HS.out | exact HS2.out) _ (by first | exact hx | exact hy) (by first | exact hx | exact hy))) | (go_at_call 27; exact bel_call (Nat.le_refl _) (rstrong_lit (r := true) (by first | exact HS.out | exact HS2.out) _ (by first | exact hx | exact hy) (by first | exact hx | exact hy))) | (go_at_call 28; exact bel_call (Nat.le_refl _) (weak_lit (r := true) (by first | exact HW.out | exact HW2.out) _ (by first | exact hx | exact hy) (by first | exact hx | exact hy))) | (go_at_call 29; exact bel_call (Nat.le_refl _) (rweak_lit (r := true) (by first | exact HW.out | exact HW2.out) _ (by first | exact hx | exact hy) (by first | exact hx | exact hy))))))
        refine wpQuiet_nil ?_
        rintro w99 ⟨⟨_, hb99⟩, rfl⟩
        have hB99 := hB2.trans (hb99.mono hB2.size)
        go_wp2_with fail
        go_ret
        exact ⟨rfl, hB99⟩

theorem ps : ∀ t ∈ Tryd.f7.params.toList, Tryd.prog.readableRec t = true ∧ t < Tryd.prog.types.size := by
  rw [Tryd.params7]
  intro t ht
  simp at ht
  subst ht
  all_goals exact ⟨by kernel_rfl, of_decide_eq_true (by kernel_rfl)⟩

set_option maxRecDepth 100000 in
theorem lifted (os : Os) (started : os.Started) (H : Type) (enc : TypeId × Value → H) :
    ReturnsInHanded {} Tryd.checked os 7 .any (fun w args => (Rows.tagSameSpec.pre enc Tryd.prog Tryd.f7 [] false w args ∧ laidMetH Tryd.prog laidL w) ∧ sizedMet enc Tryd.prog Tryd.f7 (OpenSpec.ofChange Rows.tagSameSpec) false w args) (Rows.tagSameSpec.post enc Tryd.prog Tryd.f7 false true false false) := by
  refine returnsInHanded_of_change_and (C := Tryd.checked) (X := fun w _ => laidMetH Tryd.prog laidL w) (fun _ _ _ hh h => h.of_heap hh) law_own started (by kernel_rfl) Tryd.func7
    (ChangeSpec.witness_shaped (enc := enc) (C := Tryd.checked) (os := os) (X := fun w _ => laidMetH Tryd.prog laidL w) false (World.laidAll Tryd.prog os laidL) #[.agg #[.string ByteArray.empty, .bool false], .agg #[.string ByteArray.empty, .bool false]] 8 (World.laidAll_os _ _ _) (World.shaped_of_ZipB (by kernel_rfl) (by kernel_rfl)) (by kernel_rfl) (by kernel_rfl) (by kernel_rfl) (by rw [MakeChecks.laidMetH_plain _ _ _ (by kernel_rfl)]; exact laidMet_laidAll _ (by kernel_rfl) (by kernel_rfl))) ?_
  intro W base args ds gs before hval0 hW _ hsz hL _
  have hval : ∀ (j : Nat) t v, Tryd.f7.params[j]? = some t → args[j]? = some v → Value.okWide Tryd.prog W .any base t v := hval0
  have hW' := hW
  have hlt : ∀ p ∈ before, p.block < W.heap.size := fun p hp => hW.lt p hp
  obtain ⟨p, q, hA0, hV, rfl, hfz, hnd⟩ := hW
  have hA : DataW.TrodAll enc Tryd.prog W 0 (fun _ => true) true Tryd.f7.params.toList args.toList ds p := hA0
  rw [Tryd.params7] at hA hval
  obtain ⟨v0, vs0, d0, ds0, p0, q0, hargs, rfl, rfl, h0, r0⟩ := trodAll_cons hA
  obtain ⟨v1, vs1, d1, ds1, p1, q1, rfl, rfl, rfl, h1, r1⟩ := trodAll_cons r0
  obtain ⟨rfl, rfl, rfl⟩ := trodAll_nil r1
  obtain rfl : args = #[v0, v1] := by cases args; simp_all
  obtain ⟨rfl, rfl⟩ := trodVars_none hV
  obtain ⟨cs0, fu0, x0, rfl, t0⟩ := open_struct Tryd.underlying23 (hval 0 23 v0 rfl rfl) h0
  obtain ⟨x, a, rfl, hx⟩ := open_tag t0
  obtain ⟨cs1, fu1, x1, rfl, t1⟩ := open_struct Tryd.underlying23 (hval 1 23 v1 rfl rfl) h1
  obtain ⟨y, b, rfl, hy⟩ := open_tag t1
  clear hA0 hval0
  refine (walk x y a b W (Nat.le_trans hx mLen) (Nat.le_trans hy mLen)).mono fun e W' ⟨he, hb⟩ => ?_
  subst he
  exact ⟨_, rfl, law_close hW' rfl rfl rfl ps hb⟩

theorem row : Rows.TagSameSaid :=
  OpenClaim.holds_of_wide 7 Tryd.f7 rfl rfl rfl rfl rfl rfl rfl ⟨rfl, rfl, rfl, rfl, rfl⟩ rfl rfl rfl rfl rfl (by kernel_rfl) Tryd.func7 (by kernel_rfl)
    (of_decide_eq_true (by kernel_rfl)) (by unfold Func.isWrapper; first | (rw [if_pos (by decide +kernel)]; kernel_rfl) | (rw [if_neg (by decide +kernel)]; exact ⟨rfl, rfl⟩))
    (fun os started H enc _ => lifted os started H enc)
theorem proved : Rows.TagSameCardSaid :=
  Claim7.holds_tied_plain_at .later [] [.data, .pinned] true (true, "c41245ace16549ad04269c2019393a4276d1d6229939c27fe57ac0f1b86a51db") false
    row (fun _ h => by cases h) (by kernel_rfl) (fun _ h => by cases h) tagSame_row_tie rfl ⟨rfl, rfl⟩ (by kernel_rfl) rfl
    (fun f fn hf hfn => by
      obtain rfl : f = 7 := Option.some.inj ((show Tryd.prog.funcNamed "mandoline/mandolinelaw05.TagSame" = some 7 by kernel_rfl).symm.trans hf) |>.symm
      obtain rfl : fn = Tryd.f7 := (Option.some.inj (Tryd.func7.symm.trans hfn)).symm
      exact ⟨by kernel_rfl, fun j t ht => by
        rw [Tryd.params7] at ht
        have hm : t ∈ [23, 23] := by simpa using Array.mem_of_getElem? ht
        have hall : ([23, 23].all fun u => !Tryd.prog.wantsStandIn u) = true := by kernel_rfl
        exact (show Tryd.prog.wantsStandIn t = false by simpa using List.all_eq_true.1 hall t hm)⟩)
    (by kernel_rfl)
#print axioms proved

end Go.Proofs.YtnipbhmacfnjfaaDoor.tagSame
