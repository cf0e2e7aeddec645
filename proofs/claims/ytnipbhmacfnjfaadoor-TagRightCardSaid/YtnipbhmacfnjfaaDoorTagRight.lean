/-
  Any text is the tag that the reference says, or none's; any tag may be, or not: for every text and tag.
-/
import Derived.Test.YtnipbhmacfnjfaaDoorTagZ
import Derived.Test.YtnipbhmacfnjfaaDoorTagU
import Derived.Test.YtnipbhmacfnjfaaDoorTagR
import Derived.Test.YtnipbhmacfnjfaaDoorOpenT
import Derived.Test.YtnipbhmacfnjfaaDoorOpenC
import Derived.Test.YtnipbhmacfnjfaaDoorLaidT
import Derived.Test.YtnipbhmacfnjfaaDoorLift
import Derived.Test.YtnipbhmacfnjfaaDoorTie
import Derived.Test.YtnipbhmacfnjfaaDoorCards
import Derived.SevenTiedAt
import Derived.Deep.DeepCutAuto
import Derived.Deep.RegionHeld3
namespace Go.Proofs.YtnipbhmacfnjfaaDoor.tagRight
open Go.ChangeShapes Go.WideShapes Go.ChangeAt Go.RowKit Go.Deep
set_option linter.unusedVariables false
set_option linter.unusedSimpArgs false

theorem rparse_lit {s : ByteArray} {r : Option TagL} (h : parseB s.data.toList = r) (w : World) (hs : s.size ≤ 9223372036854775807) : Calls Tryd.prog 15 #[.string s] w (ParseOk r w) := h ▸ rparse_any s w hs

set_option maxRecDepth 100000 in
set_option maxHeartbeats 1000000 in
theorem walk (s x : ByteArray) (wk : Bool) (w : World) (hs : s.size ≤ 9223372036854775807) (hx : x.size ≤ 9223372036854775807) : Calls Tryd.prog 3 #[.string s, .agg #[.string x, .bool wk]] w (BoolOk true w) := by
  go_enter Tryd.func3, Tryd.ntmps3
  go_wp2_with fail
  obtain ⟨w1, hw1⟩ : ∃ w1 : World, w1 = (w).alloc (.cells #[.string x, .bool wk] 23) := ⟨_, rfl⟩
  rw [← hw1]
  have hB1 : Below w.heap.size w w1 := by rw [hw1]; exact ((Below.refl _ _).alloc (Nat.le_refl _) _)
  have T : Blk w1 (w.heap.size) 23 #[.string x, .bool wk] := by rw [hw1]; exact (Blk.new _ _ _)
  clear hw1
  have cT := T.cell
  refine (awake5 _).mono ?_
  rintro e w2 ⟨rfl, hb2⟩
  have hB2 := hB1.trans (hb2.mono hB1.size)
  replace T := T.below hb2 T.lt
  clear cT hb2
  have cT := T.cell
  by_cases h3 : 300 < s.size
  · have d3 : decide ((s.size : Int) > 300) = true := decide_eq_true (by omega)
    go_wp2_with fail
    refine (awake5 _).mono ?_
    rintro e w3 ⟨rfl, hb3⟩
    have hB3 := hB2.trans (hb3.mono hB2.size)
    replace T := T.below hb3 T.lt
    clear cT hb3
    have cT := T.cell
    go_wp2_with fail
    go_ret
    exact ⟨rfl, hB3⟩
  · have d3 : decide ((s.size : Int) > 300) = false := decide_eq_false (by omega)
    by_cases h4 : 300 < x.size
    · have d4 : decide ((x.size : Int) > 300) = true := decide_eq_true (by omega)
      go_wp2_with fail
      refine (awake5 _).mono ?_
      rintro e w3 ⟨rfl, hb3⟩
      have hB3 := hB2.trans (hb3.mono hB2.size)
      replace T := T.below hb3 T.lt
      clear cT hb3
      have cT := T.cell
      go_wp2_with fail
      go_ret
      exact ⟨rfl, hB3⟩
    · have d4 : decide ((x.size : Int) > 300) = false := decide_eq_false (by omega)
      obtain ⟨r, hr⟩ : ∃ r, parseB s.data.toList = r := ⟨_, rfl⟩
      cases r with
      | none =>
        go_wp2_with fail
        refine (parse_lit hr _ hs).mono ?_
        rintro e w3 ⟨rfl, hb3⟩
        have hB3 := hB2.trans (hb3.mono hB2.size)
        replace T := T.below hb3 T.lt
        clear cT hb3
        simp only [parseV]
        have cT := T.cell
        go_upto_region 4 with fail
        obtain ⟨w4, hw4⟩ : ∃ W : World, W = w3.alloc (.cells #[.string ⟨#[]⟩, .bool false] 23) := ⟨_, rfl⟩
        rw [← hw4]
        have P0 : Blk w4 w3.heap.size 23 #[.string ⟨#[]⟩, .bool false] := by rw [hw4]; exact Blk.new _ _ _
        replace T := T.alloc (.cells #[.string ⟨#[]⟩, .bool false] 23)
        rw [← hw4] at T
        have hB4 : Below w.heap.size w w4 := by rw [hw4]; exact hB3.alloc hB3.size _
        clear hw4 cT
        have cT := T.cell
        have cP0 := P0.cell
        go_wp2_with fail
        refine (rparse_lit hr _ hs).mono ?_
        rintro e w5 ⟨rfl, hb5⟩
        have hB5 := hB4.trans (hb5.mono hB4.size)
        replace T := T.below hb5 T.lt
        replace P0 := P0.below hb5 P0.lt
        clear cT cP0 hb5
        simp only [parseV]
        have cT := T.cell
        have cP0 := P0.cell
        go_upto_region 5 with fail
        obtain ⟨w6, hw6⟩ : ∃ W : World, W = w5.alloc (.cells #[.string ⟨#[]⟩, .bool false] 23) := ⟨_, rfl⟩
        rw [← hw6]
        have P1 : Blk w6 w5.heap.size 23 #[.string ⟨#[]⟩, .bool false] := by rw [hw6]; exact Blk.new _ _ _
        replace T := T.alloc (.cells #[.string ⟨#[]⟩, .bool false] 23)
        rw [← hw6] at T
        replace P0 := P0.alloc (.cells #[.string ⟨#[]⟩, .bool false] 23)
        rw [← hw6] at P0
        have hB6 : Below w.heap.size w w6 := by rw [hw6]; exact hB5.alloc hB5.size _
        clear hw6 cT cP0
        have cT := T.cell
        have cP0 := P0.cell
        have cP1 := P1.cell
        clear hr
        have qT : ∀ (zz : Bel w6.heap.size w6) i, zz.w.cell? ⟨w.heap.size, i, none⟩ = (#[.string x, .bool wk] : Array Value)[i]? := fun zz i => (T.below zz.h T.lt).cell i
        have qP0 : ∀ (zz : Bel w6.heap.size w6) i, zz.w.cell? ⟨w3.heap.size, i, none⟩ = (#[.string ⟨#[]⟩, .bool false] : Array Value)[i]? := fun zz i => (P0.below zz.h P0.lt).cell i
        have qP1 : ∀ (zz : Bel w6.heap.size w6) i, zz.w.cell? ⟨w5.heap.size, i, none⟩ = (#[.string ⟨#[]⟩, .bool false] : Array Value)[i]? := fun zz i => (P1.below zz.h P1.lt).cell i
        clear cT cP0 cP1
        refine wp_region_bel w6.heap.size (by kernel_rfl) (by kernel_rfl) ?_
        repeat (go_big_quiet_step ((first | (go_at_call 16; exact bel_call (Nat.le_refl _) (tag_right x wk _ hx)) | (go_at_call 17; exact bel_call (Nat.le_refl _) (rtag_right x wk _ hx)))))
        refine wpQuiet_nil ?_
        rintro w99 ⟨⟨_, hb99⟩, rfl⟩
        have hB99 := hB6.trans (hb99.mono hB6.size)
        go_wp2_with fail
        go_ret
        exact ⟨rfl, hB99⟩
      | some t =>
        obtain ⟨tl, q⟩ := t
        obtain ⟨y, hy⟩ : ∃ y : ByteArray, y = ⟨tl.toArray⟩ := ⟨_, rfl⟩
        have HY := hide hy
        clear hy
        go_wp2_with fail
        refine (parse_lit hr _ hs).mono ?_
        rintro e w3 ⟨rfl, hb3⟩
        have hB3 := hB2.trans (hb3.mono hB2.size)
        replace T := T.below hb3 T.lt
        clear cT hb3
        simp only [parseV]
        rw [← HY.out]
        have cT := T.cell
        go_upto_region 4 with fail
        obtain ⟨w4, hw4⟩ : ∃ W : World, W = w3.alloc (.cells #[.string y, .bool q] 23) := ⟨_, rfl⟩
        rw [← hw4]
        have P0 : Blk w4 w3.heap.size 23 #[.string y, .bool q] := by rw [hw4]; exact Blk.new _ _ _
        replace T := T.alloc (.cells #[.string y, .bool q] 23)
        rw [← hw4] at T
        have hB4 : Below w.heap.size w w4 := by rw [hw4]; exact hB3.alloc hB3.size _
        clear hw4 cT
        have cT := T.cell
        have cP0 := P0.cell
        go_wp2_with fail
        refine (rparse_lit hr _ hs).mono ?_
        rintro e w5 ⟨rfl, hb5⟩
        have hB5 := hB4.trans (hb5.mono hB4.size)
        replace T := T.below hb5 T.lt
        replace P0 := P0.below hb5 P0.lt
        clear cT cP0 hb5
        simp only [parseV]
        rw [← HY.out]
        have cT := T.cell
        have cP0 := P0.cell
        go_upto_region 5 with fail
        obtain ⟨w6, hw6⟩ : ∃ W : World, W = w5.alloc (.cells #[.string y, .bool q] 23) := ⟨_, rfl⟩
        rw [← hw6]
        have P1 : Blk w6 w5.heap.size 23 #[.string y, .bool q] := by rw [hw6]; exact Blk.new _ _ _
        replace T := T.alloc (.cells #[.string y, .bool q] 23)
        rw [← hw6] at T
        replace P0 := P0.alloc (.cells #[.string y, .bool q] 23)
        rw [← hw6] at P0
        have hB6 : Below w.heap.size w w6 := by rw [hw6]; exact hB5.alloc hB5.size _
        clear hw6 cT cP0
        have cT := T.cell
        have cP0 := P0.cell
        have cP1 := P1.cell
        clear hr
        cases q
        · have qT : ∀ (zz : Bel w6.heap.size w6) i, zz.w.cell? ⟨w.heap.size, i, none⟩ = (#[.string x, .bool wk] : Array Value)[i]? := fun zz i => (T.below zz.h T.lt).cell i
          have qP0 : ∀ (zz : Bel w6.heap.size w6) i, zz.w.cell? ⟨w3.heap.size, i, none⟩ = (#[.string y, .bool false] : Array Value)[i]? := fun zz i => (P0.below zz.h P0.lt).cell i
          have qP1 : ∀ (zz : Bel w6.heap.size w6) i, zz.w.cell? ⟨w5.heap.size, i, none⟩ = (#[.string y, .bool false] : Array Value)[i]? := fun zz i => (P1.below zz.h P1.lt).cell i
          clear cT cP0 cP1
          refine wp_region_bel w6.heap.size (by kernel_rfl) (by kernel_rfl) ?_
          repeat (go_big_quiet_step ((first | (go_at_call 16; exact bel_call (Nat.le_refl _) (tag_right x wk _ hx)) | (go_at_call 17; exact bel_call (Nat.le_refl _) (rtag_right x wk _ hx)))))
          refine wpQuiet_nil ?_
          rintro w99 ⟨⟨_, hb99⟩, rfl⟩
          have hB99 := hB6.trans (hb99.mono hB6.size)
          go_wp2_with fail
          go_ret
          exact ⟨rfl, hB99⟩
        · have qT : ∀ (zz : Bel w6.heap.size w6) i, zz.w.cell? ⟨w.heap.size, i, none⟩ = (#[.string x, .bool wk] : Array Value)[i]? := fun zz i => (T.below zz.h T.lt).cell i
          have qP0 : ∀ (zz : Bel w6.heap.size w6) i, zz.w.cell? ⟨w3.heap.size, i, none⟩ = (#[.string y, .bool true] : Array Value)[i]? := fun zz i => (P0.below zz.h P0.lt).cell i
          have qP1 : ∀ (zz : Bel w6.heap.size w6) i, zz.w.cell? ⟨w5.heap.size, i, none⟩ = (#[.string y, .bool true] : Array Value)[i]? := fun zz i => (P1.below zz.h P1.lt).cell i
          clear cT cP0 cP1
          refine wp_region_bel w6.heap.size (by kernel_rfl) (by kernel_rfl) ?_
          repeat (go_big_quiet_step ((first | (go_at_call 16; exact bel_call (Nat.le_refl _) (tag_right x wk _ hx)) | (go_at_call 17; exact bel_call (Nat.le_refl _) (rtag_right x wk _ hx)))))
          refine wpQuiet_nil ?_
          rintro w99 ⟨⟨_, hb99⟩, rfl⟩
          have hB99 := hB6.trans (hb99.mono hB6.size)
          go_wp2_with fail
          go_ret
          exact ⟨rfl, hB99⟩

theorem ps : ∀ t ∈ Tryd.f3.params.toList, Tryd.prog.readableRec t = true ∧ t < Tryd.prog.types.size := by
  rw [Tryd.params3]
  intro t ht
  simp at ht
  rcases ht with rfl | rfl
  all_goals exact ⟨by kernel_rfl, of_decide_eq_true (by kernel_rfl)⟩

set_option maxRecDepth 100000 in
theorem lifted (os : Os) (started : os.Started) (H : Type) (enc : TypeId × Value → H) :
    ReturnsInHanded {} Tryd.checked os 3 .any (fun w args => (Rows.tagRightSpec.pre enc Tryd.prog Tryd.f3 [] false w args ∧ laidMetH Tryd.prog laidL w) ∧ sizedMet enc Tryd.prog Tryd.f3 (OpenSpec.ofChange Rows.tagRightSpec) false w args) (Rows.tagRightSpec.post enc Tryd.prog Tryd.f3 false true false false) := by
  refine returnsInHanded_of_change_and (C := Tryd.checked) (X := fun w _ => laidMetH Tryd.prog laidL w) (fun _ _ _ hh h => h.of_heap hh) law_own started (by kernel_rfl) Tryd.func3
    (ChangeSpec.witness_shaped (enc := enc) (C := Tryd.checked) (os := os) (X := fun w _ => laidMetH Tryd.prog laidL w) false (World.laidAll Tryd.prog os laidL) #[.string ByteArray.empty, .agg #[.string ByteArray.empty, .bool false]] 8 (World.laidAll_os _ _ _) (World.shaped_of_ZipB (by kernel_rfl) (by kernel_rfl)) (by kernel_rfl) (by kernel_rfl) (by kernel_rfl) (by rw [MakeChecks.laidMetH_plain _ _ _ (by kernel_rfl)]; exact laidMet_laidAll _ (by kernel_rfl) (by kernel_rfl))) ?_
  intro W base args ds gs before hval0 hW _ hsz hL _
  have hval : ∀ (j : Nat) t v, Tryd.f3.params[j]? = some t → args[j]? = some v → Value.okWide Tryd.prog W .any base t v := hval0
  have hW' := hW
  have hlt : ∀ p ∈ before, p.block < W.heap.size := fun p hp => hW.lt p hp
  obtain ⟨p, q, hA0, hV, rfl, hfz, hnd⟩ := hW
  have hA : DataW.TrodAll enc Tryd.prog W 0 (fun _ => true) true Tryd.f3.params.toList args.toList ds p := hA0
  rw [Tryd.params3] at hA hval
  obtain ⟨v0, vs0, d0, ds0, p0, q0, hargs, rfl, rfl, h0, r0⟩ := trodAll_cons hA
  obtain ⟨v1, vs1, d1, ds1, p1, q1, rfl, rfl, rfl, h1, r1⟩ := trodAll_cons r0
  obtain ⟨rfl, rfl, rfl⟩ := trodAll_nil r1
  obtain rfl : args = #[v0, v1] := by cases args; simp_all
  obtain ⟨rfl, rfl⟩ := trodVars_none hV
  obtain ⟨s, rfl, rfl, rfl, hs⟩ := ChangeMaps.open_string Tryd.underlying9 (hval 0 9 v0 rfl rfl) h0
  obtain ⟨cs1, fu1, x1, rfl, t1⟩ := open_struct Tryd.underlying23 (hval 1 23 v1 rfl rfl) h1
  obtain ⟨x, wk, rfl, hx⟩ := open_tag t1
  clear hA0 hval0
  refine (walk s x wk W (Nat.le_trans hs mLen) (Nat.le_trans hx mLen)).mono fun e W' ⟨he, hb⟩ => ?_
  subst he
  exact ⟨_, rfl, law_close hW' rfl rfl rfl ps hb⟩

theorem row : Rows.TagRightSaid :=
  OpenClaim.holds_of_wide 3 Tryd.f3 rfl rfl rfl rfl rfl rfl rfl ⟨rfl, rfl, rfl, rfl, rfl⟩ rfl rfl rfl rfl rfl (by kernel_rfl) Tryd.func3 (by kernel_rfl)
    (of_decide_eq_true (by kernel_rfl)) (by unfold Func.isWrapper; first | (rw [if_pos (by decide +kernel)]; kernel_rfl) | (rw [if_neg (by decide +kernel)]; exact ⟨rfl, rfl⟩))
    (fun os started H enc _ => lifted os started H enc)
theorem proved : Rows.TagRightCardSaid :=
  Claim7.holds_tied_plain_at .later [] [.data, .pinned] true (true, "c41245ace16549ad04269c2019393a4276d1d6229939c27fe57ac0f1b86a51db") false
    row (fun _ h => by cases h) (by kernel_rfl) (fun _ h => by cases h) tagRight_row_tie rfl ⟨rfl, rfl⟩ (by kernel_rfl) rfl
    (fun f fn hf hfn => by
      obtain rfl : f = 3 := Option.some.inj ((show Tryd.prog.funcNamed "mandoline/mandolinelaw05.TagRight" = some 3 by kernel_rfl).symm.trans hf) |>.symm
      obtain rfl : fn = Tryd.f3 := (Option.some.inj (Tryd.func3.symm.trans hfn)).symm
      exact ⟨by kernel_rfl, fun j t ht => by
        rw [Tryd.params3] at ht
        have hm : t ∈ [9, 23] := by simpa using Array.mem_of_getElem? ht
        have hall : ([9, 23].all fun u => !Tryd.prog.wantsStandIn u) = true := by kernel_rfl
        exact (show Tryd.prog.wantsStandIn t = false by simpa using List.all_eq_true.1 hall t hm)⟩)
    (by kernel_rfl)
#print axioms proved

end Go.Proofs.YtnipbhmacfnjfaaDoor.tagRight
