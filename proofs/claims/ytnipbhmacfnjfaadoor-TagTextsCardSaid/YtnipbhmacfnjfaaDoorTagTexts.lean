/-
  Any tag, and any list of tags, has the text that the reference says: for every tag and list.
-/
import Derived.Test.YtnipbhmacfnjfaaDoorTagZ
import Derived.Test.YtnipbhmacfnjfaaDoorTagU
import Derived.Test.YtnipbhmacfnjfaaDoorTagR
import Derived.Test.YtnipbhmacfnjfaaDoorOpenT
import Derived.Test.YtnipbhmacfnjfaaDoorOpenC
import Derived.Test.YtnipbhmacfnjfaaDoorLaidT
import Derived.Test.YtnipbhmacfnjfaaDoorLift
import Derived.Test.YtnipbhmacfnjfaaDoorTie
import Derived.Test.YtnipbhmacfnjfaaDoorCards
import Derived.SevenTiedAt
import Derived.Deep.DeepCutAuto
import Derived.Deep.RegionHeld3
import Derived.Test.YtnipbhmacfnjfaaDoorOwnS
namespace Go.Proofs.YtnipbhmacfnjfaaDoor.tagTexts
open Go.ChangeShapes Go.WideShapes Go.ChangeAt Go.RowKit Go.Deep
set_option linter.unusedVariables false
set_option linter.unusedSimpArgs false

theorem rtext_lit {x : ByteArray} {wk : Bool} {l : Bs} (h : textB (x.data.toList, wk) = l) (w : World) (hx : x.size ≤ 9223372036854775807) : Calls Tryd.prog 20 #[.agg #[.string x, .bool wk]] w fun e w' => e = .returned (.string ⟨l.toArray⟩) ∧ Below w.heap.size w w' :=
  (rtext_any x wk w hx).mono fun e w' ⟨t, ht, he, hb⟩ => ⟨by rw [he, str_of (ht.trans h)], hb⟩
theorem texts_lit2 {v : Value} {ts : List TagL} {all : Bool} {l : Bs} (h : textsB ts all = l) (w : World) (hr : RdL LT w w.heap.size v ts) (hz : ∀ t ∈ ts, t.1.length ≤ 9223372036854775807) (hn : ts.length ≤ 1000000) : Calls Tryd.prog 21 #[v, .bool all] w fun e w' => e = .returned (.string ⟨l.toArray⟩) ∧ Below w.heap.size w w' :=
  (texts_walk v ts all w hr hz hn).mono fun e w' ⟨t, ht, he, hb⟩ => ⟨by rw [he, str_of (ht.trans h)], hb⟩
theorem rtexts_lit {v : Value} {ts : List TagL} {all : Bool} {l : Bs} (h : textsB ts all = l) (w : World) (hr : RdL LT w w.heap.size v ts) (hz : ∀ t ∈ ts, t.1.length ≤ 9223372036854775807) (hn : ts.length ≤ 1000000) : Calls Tryd.prog 22 #[v, .bool all] w fun e w' => e = .returned (.string ⟨l.toArray⟩) ∧ Below w.heap.size w w' :=
  (rtexts_any v ts all w hr hz hn).mono fun e w' ⟨t, ht, he, hb⟩ => ⟨by rw [he, str_of (ht.trans h)], hb⟩

set_option maxRecDepth 100000 in
set_option maxHeartbeats 4000000 in
theorem walk (x : ByteArray) (wk : Bool) (v : Value) (ts : List TagL) (all : Bool) (w : World) (hx : x.size ≤ 9223372036854775807) (hl : RdL LT w w.heap.size v ts) (hz2 : ∀ t ∈ ts, t.1.length ≤ 140737488355328) : Calls Tryd.prog 4 #[.agg #[.string x, .bool wk], v, .bool all] w (BoolOk true w) := by
  obtain ⟨A, c, rfl, hlc, hcm⟩ := hl.form
  have RG := hide hl
  clear hl
  go_enter Tryd.func4, Tryd.ntmps4
  go_wp2_with fail
  obtain ⟨w1, hw1⟩ : ∃ w1 : World, w1 = (w).alloc (.cells #[.string x, .bool wk] 23) := ⟨_, rfl⟩
  rw [← hw1]
  have hB1 : Below w.heap.size w w1 := by rw [hw1]; exact ((Below.refl _ _).alloc (Nat.le_refl _) _)
  have T : Blk w1 (w.heap.size) 23 #[.string x, .bool wk] := by rw [hw1]; exact (Blk.new _ _ _)
  clear hw1
  have cT := T.cell
  refine (awake5 _).mono ?_
  rintro e w2 ⟨rfl, hb2⟩
  have hB2 := hB1.trans (hb2.mono hB1.size)
  replace T := T.below hb2 T.lt
  clear cT hb2
  have cT := T.cell
  by_cases h3 : 300 < x.size
  · have d3 : decide ((x.size : Int) > 300) = true := decide_eq_true (by omega)
    go_wp2_with fail
    refine (awake5 _).mono ?_
    rintro e w3 ⟨rfl, hb3⟩
    have hB3 := hB2.trans (hb3.mono hB2.size)
    replace T := T.below hb3 T.lt
    clear cT hb3
    have cT := T.cell
    go_wp2_with fail
    go_ret
    exact ⟨rfl, hB3⟩
  · have d3 : decide ((x.size : Int) > 300) = false := decide_eq_false (by omega)
    go_wp2_with fail
    refine (great_any _ ts _ ((RG.out.below hB2).mono hB2.size) hz2).mono ?_
    rintro e w' ⟨b, rfl, rfl, HG⟩
    cases b
    · obtain ⟨hn4, hz4⟩ := HG rfl
      clear HG
      have hzz : ∀ t ∈ ts, t.1.length ≤ 9223372036854775807 := fun t ht => by have := hz4 t ht; omega
      have hnn : ts.length ≤ 1000000 := by omega
      clear hz4
      have SMK := hide (show ∀ W : World, Below w2.heap.size w2 W → (fun W => Below w2.heap.size w2 W ∧ W.cell? ⟨w.heap.size, 0, none⟩ = some (.string x) ∧ W.cell? ⟨w.heap.size, 1, none⟩ = some (.bool wk)) W from fun W h => ⟨h, (T.below h T.lt).cell 0, (T.below h T.lt).cell 1⟩)
      have HRR := hide (show ∀ W : World, Below w2.heap.size w2 W → RdL LT W W.heap.size (.slice A ts.length c) ts from fun W h => ((RG.out.below hB2).below (h.mono hB2.size)).mono (Nat.le_trans hB2.size h.size))
      obtain ⟨l1, hl1⟩ : ∃ l, textB (x.data.toList, wk) = l := ⟨_, rfl⟩
      obtain ⟨l2, hl2⟩ : ∃ l, textsB ts all = l := ⟨_, rfl⟩
      have HL1 := hide hl1
      have HL2 := hide hl2
      clear hl1 hl2
      obtain ⟨b1, hb1⟩ : ∃ b : ByteArray, b = ⟨l1.toArray⟩ := ⟨_, rfl⟩
      obtain ⟨b2, hb2⟩ : ∃ b : ByteArray, b = ⟨l2.toArray⟩ := ⟨_, rfl⟩
      have CT := hide (fun W : World => (text_lit HL1.out W hx : Calls Tryd.prog 19 _ _ _))
      have CR := hide (fun W : World => (rtext_lit HL1.out W hx : Calls Tryd.prog 20 _ _ _))
      have CS := hide (fun (v : Value) (W : World) (h : RdL LT W W.heap.size v ts) => (texts_lit2 HL2.out W h hzz hnn : Calls Tryd.prog 21 _ _ _))
      have CQ := hide (fun (v : Value) (W : World) (h : RdL LT W W.heap.size v ts) => (rtexts_lit HL2.out W h hzz hnn : Calls Tryd.prog 22 _ _ _))
      rw [← hb1] at CT CR
      rw [← hb2] at CS CQ
      have HB1 := hide hb1
      have HB2 := hide hb2
      clear hb1 hb2
      have ge1 : (b1.toList == b1.toList) = true := by simp
      have ge2 : (b2.toList == b2.toList) = true := by simp
      go_upto_region 3 with fail
      go_cut [6] (fun s wx => s = .bool true ∧ Below w2.heap.size w2 wx)
      case first =>
        clear cT
        go_region_held3 (fun W => Below w2.heap.size w2 W ∧ W.cell? ⟨w.heap.size, 0, none⟩ = some (.string x) ∧ W.cell? ⟨w.heap.size, 1, none⟩ = some (.bool wk)) ((first | exact SMK.out _ (Below.drew (Below.refl _ _)) | exact SMK.out _ (Below.trans (Below.drew (Below.refl _ _)) (Below.mono hbt (Nat.le_refl _))) | exact SMK.out _ (Below.trans (Below.trans (Below.drew (Below.refl _ _)) (Below.mono hbt (Nat.le_refl _))) (Below.mono hbu (Below.size (Below.trans (Below.drew (Below.refl _ _)) (Below.mono hbt (Nat.le_refl _)))))) | exact SMK.out _ hap | exact SMK.out _ (Below.trans hap (Below.mono hbk (Below.size hap))) | exact SMK.out _ (Below.trans (Below.trans hap (Below.mono hbk (Below.size hap))) (Below.mono hbq (Below.size (Below.trans hap (Below.mono hbk (Below.size hap)))))) | (have hX : Below w2.heap.size w2 _ := (Below.trans (Below.trans (Below.drew (Below.refl _ _)) (Below.mono hbt (Nat.le_refl _))) (Below.mono hbu (Below.size (Below.trans (Below.drew (Below.refl _ _)) (Below.mono hbt (Nat.le_refl _)))))); exact SMK.out _ (Below.alloc hX hX.size _))))
          (first | (refine step_appL LT w2 (by rfl) (.tmp 26) (.tmp 27) _ _ (by rfl) rfl rfl w2.heap.size _ [] (by rfl) (OwnL.made LT w4 #[] 0 _ (show w2.heap.size ≤ w4.heap.size from Nat.le_trans (show w2.heap.size ≤ w3.heap.size from hbt.size) hbu.size) (by decide) rfl) (And.left (by assumption)) (Below.size (And.left (by assumption))) _ ts _ (by rfl) (HRR.out _ (And.left (by assumption))) (by decide) (by simp; omega) ?_; intro v7 w7 O7 hap) | (go_at_call 19; refine (CT.out _).mono ?_; rintro e w3 ⟨rfl, hbt⟩) | (go_at_call 20; refine (CR.out _).mono ?_; rintro e w4 ⟨rfl, hbu⟩) | (go_at_call 21; refine (CS.out _ _ O7.rd).mono ?_; rintro e w8 ⟨rfl, hbk⟩) | (go_at_call 22; refine (CQ.out _ _ (HRR.out _ (And.left (by assumption)))).mono ?_; rintro e w9 ⟨rfl, hbq⟩))
        all_goals (go_wp2_with fail; go_meet)
        all_goals exact ⟨rfl, Below.trans (Below.trans hap (Below.mono hbk hap.size)) (Below.mono hbq (Below.trans hap (Below.mono hbk hap.size)).size)⟩
      case rest =>
        obtain ⟨rfl, hbc⟩ := hcut
        go_wp2_with fail
        go_ret
        exact ⟨rfl, hB2.trans (hbc.mono hB2.size)⟩
    · clear HG
      go_wp2_with fail
      refine (awake5 _).mono ?_
      rintro e w3 ⟨rfl, hb3⟩
      have hB3 := hB2.trans (hb3.mono hB2.size)
      replace T := T.below hb3 T.lt
      clear cT hb3
      have cT := T.cell
      go_wp2_with fail
      go_ret
      exact ⟨rfl, hB3⟩

theorem ps : ∀ t ∈ Tryd.f4.params.toList, Tryd.prog.readableRec t = true ∧ t < Tryd.prog.types.size := by
  rw [Tryd.params4]
  intro t ht
  simp at ht
  rcases ht with rfl | rfl | rfl
  all_goals exact ⟨by kernel_rfl, of_decide_eq_true (by kernel_rfl)⟩

set_option maxRecDepth 100000 in
theorem lifted (os : Os) (started : os.Started) (H : Type) (enc : TypeId × Value → H) :
    ReturnsInHanded {} Tryd.checked os 4 .any (fun w args => (Rows.tagTextsSpec.pre enc Tryd.prog Tryd.f4 [] false w args ∧ laidMetH Tryd.prog laidL w) ∧ sizedMet enc Tryd.prog Tryd.f4 (OpenSpec.ofChange Rows.tagTextsSpec) false w args) (Rows.tagTextsSpec.post enc Tryd.prog Tryd.f4 false true false false) := by
  refine returnsInHanded_of_change_and (C := Tryd.checked) (X := fun w _ => laidMetH Tryd.prog laidL w) (fun _ _ _ hh h => h.of_heap hh) law_own started (by kernel_rfl) Tryd.func4
    (ChangeSpec.witness_shaped (enc := enc) (C := Tryd.checked) (os := os) (X := fun w _ => laidMetH Tryd.prog laidL w) false (World.laidAll Tryd.prog os laidL) #[.agg #[.string ByteArray.empty, .bool false], .slice none 0 0, .bool false] 8 (World.laidAll_os _ _ _) (World.shaped_of_ZipB (by kernel_rfl) (by kernel_rfl)) (by kernel_rfl) (by kernel_rfl) (by kernel_rfl) (by rw [MakeChecks.laidMetH_plain _ _ _ (by kernel_rfl)]; exact laidMet_laidAll _ (by kernel_rfl) (by kernel_rfl))) ?_
  intro W base args ds gs before hval0 hW _ hsz hL _
  have hval : ∀ (j : Nat) t v, Tryd.f4.params[j]? = some t → args[j]? = some v → Value.okWide Tryd.prog W .any base t v := hval0
  have hW' := hW
  have hlt : ∀ p ∈ before, p.block < W.heap.size := fun p hp => hW.lt p hp
  obtain ⟨p, q, hA0, hV, rfl, hfz, hnd⟩ := hW
  have hA : DataW.TrodAll enc Tryd.prog W 0 (fun _ => true) true Tryd.f4.params.toList args.toList ds p := hA0
  rw [Tryd.params4] at hA hval
  obtain ⟨v0, vs0, d0, ds0, p0, q0, hargs, rfl, rfl, h0, r0⟩ := trodAll_cons hA
  obtain ⟨v1, vs1, d1, ds1, p1, q1, rfl, rfl, rfl, h1, r1⟩ := trodAll_cons r0
  obtain ⟨v2, vs2, d2, ds2, p2, q2, rfl, rfl, rfl, h2, r2⟩ := trodAll_cons r1
  obtain ⟨rfl, rfl, rfl⟩ := trodAll_nil r2
  obtain rfl : args = #[v0, v1, v2] := by cases args; simp_all
  obtain ⟨rfl, rfl⟩ := trodVars_none hV
  obtain ⟨cs0, fu0, x0, rfl, t0⟩ := open_struct Tryd.underlying23 (hval 0 23 v0 rfl rfl) h0
  obtain ⟨x, wk, rfl, hx⟩ := open_tag t0
  obtain ⟨ts, hl, hz⟩ := open_tags_arg (hval 1 30 v1 rfl rfl) h1 (fun n hn => by have := List.all_eq_true.1 hsz n (DataW.weights_mem_each (j := 1) (by rw [Tryd.params4]; rfl) rfl n hn); simpa using this)
  obtain ⟨al, rfl, rfl, rfl⟩ := open_bool Tryd.underlying4 (hval 2 4 v2 rfl rfl) h2
  clear hA0 hval0
  refine (walk x wk _ ts al W (Nat.le_trans hx mLen) hl (fun t ht => Nat.le_trans (hz t ht) (by omega))).mono fun e W' ⟨he, hb⟩ => ?_
  subst he
  exact ⟨_, rfl, law_close hW' rfl rfl rfl ps hb⟩

theorem row : Rows.TagTextsSaid :=
  OpenClaim.holds_of_wide 4 Tryd.f4 rfl rfl rfl rfl rfl rfl rfl ⟨rfl, rfl, rfl, rfl, rfl⟩ rfl rfl rfl rfl rfl (by kernel_rfl) Tryd.func4 (by kernel_rfl)
    (of_decide_eq_true (by kernel_rfl)) (by unfold Func.isWrapper; first | (rw [if_pos (by decide +kernel)]; kernel_rfl) | (rw [if_neg (by decide +kernel)]; exact ⟨rfl, rfl⟩))
    (fun os started H enc _ => lifted os started H enc)
theorem proved : Rows.TagTextsCardSaid :=
  Claim7.holds_tied_plain_at .later [] [.data, .pinned] true (true, "c41245ace16549ad04269c2019393a4276d1d6229939c27fe57ac0f1b86a51db") false
    row (fun _ h => by cases h) (by kernel_rfl) (fun _ h => by cases h) tagTexts_row_tie rfl ⟨rfl, rfl⟩ (by kernel_rfl) rfl
    (fun f fn hf hfn => by
      obtain rfl : f = 4 := Option.some.inj ((show Tryd.prog.funcNamed "mandoline/mandolinelaw05.TagTexts" = some 4 by kernel_rfl).symm.trans hf) |>.symm
      obtain rfl : fn = Tryd.f4 := (Option.some.inj (Tryd.func4.symm.trans hfn)).symm
      exact ⟨by kernel_rfl, fun j t ht => by
        rw [Tryd.params4] at ht
        have hm : t ∈ [23, 30, 4] := by simpa using Array.mem_of_getElem? ht
        have hall : ([23, 30, 4].all fun u => !Tryd.prog.wantsStandIn u) = true := by kernel_rfl
        exact (show Tryd.prog.wantsStandIn t = false by simpa using List.all_eq_true.1 hall t hm)⟩)
    (by kernel_rfl)
#print axioms proved

end Go.Proofs.YtnipbhmacfnjfaaDoor.tagTexts
