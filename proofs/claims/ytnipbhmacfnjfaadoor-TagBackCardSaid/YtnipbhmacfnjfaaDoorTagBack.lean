/-
  A right tag is read from its text as it was; so is a list of right ones, as long as it isn't too long: for every list.
-/
import Derived.Test.YtnipbhmacfnjfaaDoorTagZ
import Derived.Test.YtnipbhmacfnjfaaDoorTagU
import Derived.Test.YtnipbhmacfnjfaaDoorTagR
import Derived.Test.YtnipbhmacfnjfaaDoorOpenT
import Derived.Test.YtnipbhmacfnjfaaDoorOpenC
import Derived.Test.YtnipbhmacfnjfaaDoorLaidT
import Derived.Test.YtnipbhmacfnjfaaDoorLift
import Derived.Test.YtnipbhmacfnjfaaDoorTie
import Derived.Test.YtnipbhmacfnjfaaDoorCards
import Derived.SevenTiedAt
import Derived.Deep.DeepCutAuto
import Derived.Deep.RegionHeld3
import Derived.Test.YtnipbhmacfnjfaaDoorOwnS
namespace Go.Proofs.YtnipbhmacfnjfaaDoor.tagBack
open Go.ChangeShapes Go.WideShapes Go.ChangeAt Go.RowKit Go.Deep
set_option linter.unusedVariables false
set_option linter.unusedSimpArgs false

theorem rlist_lit {s : ByteArray} {r : ListR} (h : listB s.data.toList = r) (w : World) (hs : s.size ≤ 1000000) : Calls Tryd.prog 24 #[.string s] w (ListOk r w) := h ▸ rlist_any s w hs
theorem same_self (v1 v2 : Value) (l : List TagL) (w : World) (hr1 : RdL LT w w.heap.size v1 l) (hr2 : RdL LT w w.heap.size v2 l) : Calls Tryd.prog 25 #[v1, v2] w (BoolOk true w) := by
  have h := same_any v1 v2 l l w hr1 hr2
  rw [decide_eq_true rfl] at h
  exact h
theorem listB_any {s : Bs} {r : ListR} (h : listB s = r) : r.any = true → r.e = 0 := by
  subst h
  unfold listB
  by_cases hs : (trimB s == [42]) = true
  · rw [if_pos hs]; intro _; rfl
  · rw [if_neg hs]
    intro h
    unfold listR at h
    cases hf : foldT [] (splitQ false [] s) with
    | none => rw [hf] at h; cases h
    | some ts =>
      rw [hf] at h
      simp only at h
      by_cases h1 : ts.isEmpty = true
      · rw [if_pos h1] at h; cases h
      · rw [if_neg h1] at h
        by_cases h2 : 64 < ts.length
        · rw [if_pos h2] at h; cases h
        · rw [if_neg h2] at h; cases h
theorem textsAux_len : ∀ (ts : List TagL) (b : Bool) (r : Bs), textsAux b ts = some r → r.length ≤ 106 * ts.length
  | [], b, r, h => by
    obtain rfl : [] = r := by simpa [textsAux] using h
    simp
  | t :: ts, b, r, h => by
    rw [textsAux] at h
    by_cases ht : tagOkL t.1 = true
    · rw [if_pos ht] at h
      obtain ⟨r', hr', rfl⟩ := Option.map_eq_some_iff.1 h
      have h1 := textsAux_len ts false r' hr'
      have h2 := textB_len t
      cases b <;> simp <;> omega
    · rw [if_neg ht] at h; cases h
theorem texts_len (ts : List TagL) : (textsB ts false).length ≤ 106 * ts.length := by
  unfold textsB
  cases h : textsAux true ts with
  | none => simp
  | some r => exact textsAux_len ts true r h
theorem parse_back {v x : ByteArray} {b : Bool} (hv : v.data.toList = textB (x.data.toList, b)) : parseB v.data.toList = if tagOk x = true then some (x.data.toList, b) else none := by
  rw [hv]
  by_cases h : tagOk x = true
  · rw [if_pos h]; exact parse_text (t := (x.data.toList, b)) (by rw [← tagOk_L]; exact h)
  · rw [if_neg h, text_no (t := (x.data.toList, b)) (by rw [← tagOk_L]; simpa using h)]; rfl
theorem rright_lit {s : ByteArray} {a r : Bool} (h : tagOk s = r) (w : World) (hs : s.size ≤ 9223372036854775807) : Calls Tryd.prog 17 #[.agg #[.string s, .bool a]] w fun e w' => e = .returned (.bool r) ∧ Below w.heap.size w w' := h ▸ rtag_right s a w hs
theorem texts_str {v : Value} (ts : List TagL) (w : World) (hr : RdL LT w w.heap.size v ts) (hz : ∀ t ∈ ts, t.1.length ≤ 9223372036854775807) (hn : ts.length ≤ 1000000) : Calls Tryd.prog 21 #[v, .bool false] w (StrOk (textsB ts false) w) := texts_walk v ts false w hr hz hn

set_option maxRecDepth 100000 in
set_option maxHeartbeats 4000000 in
theorem walk (v : Value) (ts : List TagL) (w : World) (hl : RdL LT w w.heap.size v ts) (hz2 : ∀ t ∈ ts, t.1.length ≤ 140737488355328) : Calls Tryd.prog 6 #[v] w (BoolOk true w) := by
  obtain ⟨A, c, rfl, hlc, hcm⟩ := hl.form
  have RG := hide hl
  have hlen := hl.len
  clear hl
  go_enter Tryd.func6, Tryd.ntmps6
  go_wp2_with fail
  refine (awake5 _).mono ?_
  rintro e w1 ⟨rfl, hb1⟩
  have hB1 := (Below.refl w.heap.size w).trans (hb1.mono (Below.refl w.heap.size w).size)
  clear hb1
  
  go_wp2_with fail
  refine (great_any _ ts _ ((RG.out.below hB1).mono hB1.size) hz2).mono ?_
  rintro e w' ⟨b, rfl, rfl, HG⟩
  cases b
  · obtain ⟨hn4, hz4⟩ := HG rfl
    clear HG
    have hzz : ∀ t ∈ ts, t.1.length ≤ 9223372036854775807 := fun t ht => by have := hz4 t ht; omega
    go_wp2_with fail
    go_loopw [4, 5, 6, 7, 20] (fun c4 c5 c6 c7 c20 wr => ∃ k : Nat, k ≤ ts.length ∧ c20 = .int .i64 (k : Int) ∧ Hid (∀ i (h : i < ts.length), i < k → tagOkL ts[i].1 = true) ∧ Below w.heap.size w wr) (fun c4 c5 c6 c7 c20 _ => ts.length - (intOf c20).toNat)
    case atStart => exact ⟨0, Nat.zero_le _, rfl, fun i _ h => absurd h (Nat.not_lt_zero i), hB1⟩
    case round =>
      obtain ⟨k, hk, rfl, HK, hbel⟩ := hrel
      by_cases hlt : k < ts.length
      · obtain ⟨b0, off, hA, hb0, hcell⟩ := RG.out.at_ k hlt
        subst hA
        have hc0 : wr.cell? ⟨b0, off + k * 2, none⟩ = some (.string ⟨ts[k].1.toArray⟩) := by rw [hbel.cell (by show b0 < _; omega)]; simpa [LT] using hcell 0 _ rfl
        have hc1 : wr.cell? ⟨b0, off + k * 2 + 1, none⟩ = some (.bool ts[k].2) := by rw [hbel.cell (by show b0 < _; omega)]; simpa [LT] using hcell 1 _ rfl
        clear hcell
        obtain ⟨q, hq⟩ : ∃ q, q = ts[k].2 := ⟨_, rfl⟩
        obtain ⟨x, hx⟩ : ∃ x : ByteArray, x = ⟨ts[k].1.toArray⟩ := ⟨_, rfl⟩
        rw [← hx] at hc0
        rw [← hq] at hc1
        have hxl : x.data.toList = ts[k].1 := by rw [hx]
        have hxs : x.size ≤ 400 := by rw [← lsize, hxl]; exact hz4 _ (List.getElem_mem hlt)
        have hxs2 : x.size ≤ 9223372036854775807 := by omega
        have HXL := hide hxl
        have HQ := hide hq
        clear hx hxl hq
        go_upto_region 6 with fail
        obtain ⟨w11, hw11⟩ : ∃ W : World, W = wr.alloc (.cells #[.string x, .bool q] 23) := ⟨_, rfl⟩
        rw [← hw11]
        have K : Blk w11 wr.heap.size 23 #[.string x, .bool q] := by rw [hw11]; exact Blk.new _ _ _
        have hB11 : Below w.heap.size w w11 := by rw [hw11]; exact hbel.alloc hbel.size _
        clear hw11 
        have cK := K.cell
        clear hc0 hc1
        go_wp2_with fail
        refine (text_any x q _ hxs2).mono ?_
        rintro e w12 ⟨v, hv, rfl, hb12⟩
        have hB12 := hB11.trans (hb12.mono hB11.size)
        replace K := K.below hb12 K.lt
        clear cK hb12
        have cK := K.cell
        have hvs : v.size ≤ 9223372036854775807 := by have := textB_len (x.data.toList, q); rw [← hv, lsize] at this; omega
        cases ho : tagOk x
        · have hpv : parseB v.data.toList = none := by rw [parse_back hv, if_neg (by rw [ho]; simp)]
          have HPV := hide hpv
          have HO := hide ho
          have HT := hide (texts_no (l := ts) ⟨ts[k], List.getElem_mem hlt, by rw [← HXL.out, ← tagOk_L]; exact HO.out⟩)
          clear hpv ho hv
          go_wp2_with fail
          refine (parse_lit HPV.out _ hvs).mono ?_
          rintro e w13 ⟨rfl, hb13⟩
          have hB13 := hB12.trans (hb13.mono hB12.size)
          replace K := K.below hb13 K.lt
          clear cK hb13
          simp only [parseV]
          have cK := K.cell
          go_upto_region 7 with fail
          obtain ⟨w14, hw14⟩ : ∃ W : World, W = w13.alloc (.cells #[.string ⟨#[]⟩, .bool false] 23) := ⟨_, rfl⟩
          rw [← hw14]
          have X : Blk w14 w13.heap.size 23 #[.string ⟨#[]⟩, .bool false] := by rw [hw14]; exact Blk.new _ _ _
          replace K := K.alloc (.cells #[.string ⟨#[]⟩, .bool false] 23)
          rw [← hw14] at K
          have hB14 : Below w.heap.size w w14 := by rw [hw14]; exact hB13.alloc hB13.size _
          clear hw14 cK
          have cK := K.cell
          have cX := X.cell
          go_wp2_with fail
          refine (rright_lit HO.out _ hxs2).mono ?_
          rintro e w15 ⟨rfl, hb15⟩
          have hB15 := hB14.trans (hb15.mono hB14.size)
          replace K := K.below hb15 K.lt
          replace X := X.below hb15 X.lt
          clear cK cX hb15
          have cK := K.cell
          have cX := X.cell
          go_wp2_with fail
          refine (rright_lit HO.out _ hxs2).mono ?_
          rintro e w16 ⟨rfl, hb16⟩
          have hB16 := hB15.trans (hb16.mono hB15.size)
          replace K := K.below hb16 K.lt
          replace X := X.below hb16 X.lt
          clear cK cX hb16
          have cK := K.cell
          have cX := X.cell
          go_wp2_with (at_builtin; refine wpList_appL LT w (by rfl) (.tmp 47) (.tmp 48) _ _ (by rfl) rfl rfl w.heap.size _ [] (by rfl) (OwnL.made LT _ #[] 0 _ hB16.size (by decide) rfl) (hB16.alloc hB16.size _) (by simp; exact Nat.le_trans hB16.size (by simp)) _ ts _ (by rfl) (RdL.below (RG.out.below hB16) ((Below.refl _ _).alloc hB16.size _)) (by decide) (by simp; omega) ?_; intro v7 w7 O7 hB7 _ _)
          refine (texts_lit HT.out _ O7.rd hzz (by omega)).mono ?_
          rintro e w8 ⟨rfl, hb8⟩
          have hB8 := hB7.trans (hb8.mono hB7.size)
          have gE : ((⟨([] : Bs).toArray⟩ : ByteArray).toList == []) = true := by rw [ByteArray.toList_eq]; rfl
          have gE2 : ((⟨#[]⟩ : ByteArray).toList == []) = true := by rw [ByteArray.toList_eq]; rfl
          go_wp2_with fail
          go_ret
          exact ⟨rfl, hB8⟩
        · have hpv : parseB v.data.toList = some (x.data.toList, q) := by rw [parse_back hv, if_pos ho]
          have HPV := hide hpv
          have HO := hide ho
          have HS := hide (show ∀ i (h : i < ts.length), i < k + 1 → tagOkL ts[i].1 = true from fun i h hik => by
            rcases Nat.lt_or_ge i k with h' | h'
            · exact HK.out i h h'
            · obtain rfl : i = k := by omega
              rw [← HXL.out, ← tagOk_L]; exact HO.out)
          clear hpv ho hv
          go_wp2_with fail
          refine (parse_lit HPV.out _ hvs).mono ?_
          rintro e w13 ⟨rfl, hb13⟩
          have hB13 := hB12.trans (hb13.mono hB12.size)
          replace K := K.below hb13 K.lt
          clear cK hb13
          simp only [parseV]
          have cK := K.cell
          go_upto_region 7 with fail
          have hxe : (⟨x.data.toList.toArray⟩ : ByteArray) = x := by simp
          have HXE := hide hxe
          clear hxe
          try rw [HXE.out]
          obtain ⟨w14, hw14⟩ : ∃ W : World, W = w13.alloc (.cells #[.string x, .bool q] 23) := ⟨_, rfl⟩
          rw [← hw14]
          have X : Blk w14 w13.heap.size 23 #[.string x, .bool q] := by rw [hw14]; exact Blk.new _ _ _
          replace K := K.alloc (.cells #[.string x, .bool q] 23)
          rw [← hw14] at K
          have hB14 : Below w.heap.size w w14 := by rw [hw14]; exact hB13.alloc hB13.size _
          clear hw14 cK
          have cK := K.cell
          have cX := X.cell
          go_wp2_with fail
          refine (rright_lit HO.out _ hxs2).mono ?_
          rintro e w15 ⟨rfl, hb15⟩
          have hB15 := hB14.trans (hb15.mono hB14.size)
          replace K := K.below hb15 K.lt
          replace X := X.below hb15 X.lt
          clear cK cX hb15
          have cK := K.cell
          have cX := X.cell
          go_wp2_with fail
          refine (rright_lit HO.out _ hxs2).mono ?_
          rintro e w16 ⟨rfl, hb16⟩
          have hB16 := hB15.trans (hb16.mono hB15.size)
          replace K := K.below hb16 K.lt
          replace X := X.below hb16 X.lt
          clear cK cX hb16
          have cK := K.cell
          have cX := X.cell
          go_wp2_with fail
          go_roundw
          case rel => exact ⟨k + 1, by omega, by go_num, HS, hB16⟩
          case measure => simp [intOf] <;> omega
      · go_wp2_with (at_builtin; refine wpList_appL LT w (by rfl) (.tmp 54) (.tmp 55) _ _ (by rfl) rfl rfl w.heap.size _ [] (by rfl) (OwnL.made LT _ #[] 0 _ hbel.size (by decide) rfl) (hbel.alloc hbel.size _) (by simp; exact Nat.le_trans hbel.size (by simp)) _ ts _ (by rfl) (RdL.below (RG.out.below hbel) ((Below.refl _ _).alloc hbel.size _)) (by decide) (by simp; omega) ?_; intro v7 w7 O7 hB7 _ _)
        have HT := hide (list_texts (l := ts) (fun t ht => by
          obtain ⟨i, hi, rfl⟩ := List.getElem_of_mem ht
          exact HK.out i hi (by omega)))
        have htl := texts_len ts
        refine (texts_str ts _ O7.rd hzz (by omega)).mono ?_
        rintro e w8 ⟨v, hv, rfl, hb8⟩
        have hB8 := hB7.trans (hb8.mono hB7.size)
        replace O7 := O7.below hb8 (Nat.le_refl _)
        have hvs : v.size ≤ 1000000 := by rw [← lsize, hv]; omega
        have hvl : listB v.data.toList = listR (some ts) := by rw [hv]; exact HT.out
        have HVL := hide hvl
        clear hvl hv htl
        go_wp2_with fail
        refine (list_lit HVL.out _ hvs).mono ?_
        rintro e w9 ⟨v9, rfl, O9, hb9⟩
        have hB9 := hB8.trans (hb9.mono hB8.size)
        clear HVL HT
        by_cases h0 : ts.length = 0
        · have hts : ts = [] := List.eq_nil_of_length_eq_zero h0
          have e1 : listR (some ts) = ⟨false, 2, []⟩ := by rw [hts]; rfl
          have g0 : ((ts.length : Int) == 0) = true := by simp [h0]
          rw [e1] at O9 ⊢
          clear h0 hts e1
          go_wp2_with fail
          go_ret
          exact ⟨rfl, hB9⟩
        · have g0 : ((ts.length : Int) == 0) = false := by rw [beq_eq_false_iff_ne]; omega
          by_cases h64 : 64 < ts.length
          · have e1 := listR_many h64
            have g1 : decide ((ts.length : Int) > 64) = true := decide_eq_true (by omega)
            rw [e1] at O9 ⊢
            clear h0 e1
            go_wp2_with fail
            go_ret
            exact ⟨rfl, hB9⟩
          · have e1 := listR_some (by omega) h64
            have g1 : decide ((ts.length : Int) > 64) = false := decide_eq_false (by omega)
            rw [e1] at O9 ⊢
            clear h0 e1
            simp only at O9
            go_wp2_with fail
            refine (same_self _ _ ts _ O9.rd ((RG.out.below hB9).mono hB9.size)).mono ?_
            rintro e wz ⟨rfl, hbz⟩
            go_wp2_with fail
            go_ret
            exact ⟨rfl, hB9.trans (hbz.mono hB9.size)⟩
  · clear HG
    go_wp2_with fail
    refine (awake5 _).mono ?_
    rintro e w2 ⟨rfl, hb2⟩
    have hB2 := hB1.trans (hb2.mono hB1.size)
    clear hb2
    
    go_wp2_with fail
    go_ret
    exact ⟨rfl, hB2⟩

theorem ps : ∀ t ∈ Tryd.f6.params.toList, Tryd.prog.readableRec t = true ∧ t < Tryd.prog.types.size := by
  rw [Tryd.params6]
  intro t ht
  obtain rfl : t = _ := by simpa using ht
  exact ⟨by kernel_rfl, of_decide_eq_true (by kernel_rfl)⟩

set_option maxRecDepth 100000 in
theorem lifted (os : Os) (started : os.Started) (H : Type) (enc : TypeId × Value → H) :
    ReturnsInHanded {} Tryd.checked os 6 .any (fun w args => (Rows.tagBackSpec.pre enc Tryd.prog Tryd.f6 [] false w args ∧ laidMetH Tryd.prog laidL w) ∧ sizedMet enc Tryd.prog Tryd.f6 (OpenSpec.ofChange Rows.tagBackSpec) false w args) (Rows.tagBackSpec.post enc Tryd.prog Tryd.f6 false true false false) := by
  refine returnsInHanded_of_change_and (C := Tryd.checked) (X := fun w _ => laidMetH Tryd.prog laidL w) (fun _ _ _ hh h => h.of_heap hh) law_own started (by kernel_rfl) Tryd.func6
    (ChangeSpec.witness_shaped (enc := enc) (C := Tryd.checked) (os := os) (X := fun w _ => laidMetH Tryd.prog laidL w) false (World.laidAll Tryd.prog os laidL) #[.slice none 0 0] 8 (World.laidAll_os _ _ _) (World.shaped_of_ZipB (by kernel_rfl) (by kernel_rfl)) (by kernel_rfl) (by kernel_rfl) (by kernel_rfl) (by rw [MakeChecks.laidMetH_plain _ _ _ (by kernel_rfl)]; exact laidMet_laidAll _ (by kernel_rfl) (by kernel_rfl))) ?_
  intro W base args ds gs before hval0 hW _ hsz hL _
  have hval : ∀ (j : Nat) t v, Tryd.f6.params[j]? = some t → args[j]? = some v → Value.okWide Tryd.prog W .any base t v := hval0
  have hW' := hW
  have hlt : ∀ p ∈ before, p.block < W.heap.size := fun p hp => hW.lt p hp
  obtain ⟨p, q, hA0, hV, rfl, hfz, hnd⟩ := hW
  have hA : DataW.TrodAll enc Tryd.prog W 0 (fun _ => true) true Tryd.f6.params.toList args.toList ds p := hA0
  rw [Tryd.params6] at hA hval
  obtain ⟨v0, vs0, d0, ds0, p0, q0, hargs, rfl, rfl, h0, r0⟩ := trodAll_cons hA
  obtain ⟨rfl, rfl, rfl⟩ := trodAll_nil r0
  obtain rfl : args = #[v0] := by cases args; simp_all
  obtain ⟨rfl, rfl⟩ := trodVars_none hV
  obtain ⟨ts, hl, hz⟩ := open_tags_arg (hval 0 30 v0 rfl rfl) h0 (fun n hn => by have := List.all_eq_true.1 hsz n (DataW.weights_mem_each (j := 0) (by rw [Tryd.params6]; rfl) rfl n hn); simpa using this)
  clear hA0 hval0
  refine (walk _ ts W hl (fun t ht => Nat.le_trans (hz t ht) (by omega))).mono fun e W' ⟨he, hb⟩ => ?_
  subst he
  exact ⟨_, rfl, law_close hW' rfl rfl rfl ps hb⟩

theorem row : Rows.TagBackSaid :=
  OpenClaim.holds_of_wide 6 Tryd.f6 rfl rfl rfl rfl rfl rfl rfl ⟨rfl, rfl, rfl, rfl, rfl⟩ rfl rfl rfl rfl rfl (by kernel_rfl) Tryd.func6 (by kernel_rfl)
    (of_decide_eq_true (by kernel_rfl)) (by unfold Func.isWrapper; first | (rw [if_pos (by decide +kernel)]; kernel_rfl) | (rw [if_neg (by decide +kernel)]; exact ⟨rfl, rfl⟩))
    (fun os started H enc _ => lifted os started H enc)
theorem proved : Rows.TagBackCardSaid :=
  Claim7.holds_tied_plain_at .later [] [.data, .pinned] true (true, "c41245ace16549ad04269c2019393a4276d1d6229939c27fe57ac0f1b86a51db") false
    row (fun _ h => by cases h) (by kernel_rfl) (fun _ h => by cases h) tagBack_row_tie rfl ⟨rfl, rfl⟩ (by kernel_rfl) rfl
    (fun f fn hf hfn => by
      obtain rfl : f = 6 := Option.some.inj ((show Tryd.prog.funcNamed "mandoline/mandolinelaw05.TagBack" = some 6 by kernel_rfl).symm.trans hf) |>.symm
      obtain rfl : fn = Tryd.f6 := (Option.some.inj (Tryd.func6.symm.trans hfn)).symm
      exact ⟨by kernel_rfl, fun j t ht => by
        rw [Tryd.params6] at ht
        have hm : t ∈ [30] := by simpa using Array.mem_of_getElem? ht
        have hall : ([30].all fun u => !Tryd.prog.wantsStandIn u) = true := by kernel_rfl
        exact (show Tryd.prog.wantsStandIn t = false by simpa using List.all_eq_true.1 hall t hm)⟩)
    (by kernel_rfl)
#print axioms proved

end Go.Proofs.YtnipbhmacfnjfaaDoor.tagBack
