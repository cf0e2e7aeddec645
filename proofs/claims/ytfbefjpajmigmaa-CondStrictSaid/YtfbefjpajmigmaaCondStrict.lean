/-
  A weak tag never lets a range through, nor fulfils Match; a strong one does both just of its own version: for every two tags and specs.
-/
import Derived.Test.YtfbefjpajmigmaaCondE
import Derived.Test.YtfbefjpajmigmaaOpenC
import Derived.Test.YtfbefjpajmigmaaLift
import Derived.Test.YtfbefjpajmigmaaQuiet
import Derived.BigRegion
import Derived.ChangeAlike
import Derived.Deep.DeepCutAuto
import Derived.Deep.CutBlock
namespace Go.Proofs.Ytfbefjpajmigmaa.condStrict
open Go.ChangeShapes Go.WideShapes Go.ChangeAt Go.RowKit Go.Deep
set_option linter.unusedVariables false

set_option maxRecDepth 100000 in
set_option maxHeartbeats 4000000 in
theorem walk (s t : ByteArray) (a b : Bool) (sa : Option Addr) (sn sc : Nat) (hs : s.size ≤ 9223372036854775807) (ht : t.size ≤ 9223372036854775807) (hn : sn ≤ 9223372036854775807) (w : World) :
    Calls Try.prog 5 #[.agg #[.string s, .bool a], .agg #[.string t, .bool b], .slice sa sn sc] w (TrueOk' w) := by
  by_cases h1 : tagOk s = true
  · by_cases h2 : tagOk t = true
    · have z1 : (s.size : Int) ≤ 100 := by unfold tagOk at h1; simp at h1; omega
      have z2 : (t.size : Int) ≤ 100 := by unfold tagOk at h2; simp at h2; omega
      go_enter Try.func5, Try.ntmps5
      go_wp2_with fail
      refine (rtag_right _ _ _ hs).mono ?_
      rintro e w1 ⟨rfl, hb1⟩
      have A0 : Blk w1 w.heap.size 25 #[.string s, .bool a] := ((Blk.new w _ _).alloc _).below hb1 (by simp; omega)
      have A1 : Blk w1 (w.heap.size + 1) 25 #[.string t, .bool b] := (Blk.new' (by simp)).below hb1 (by simp)
      have hB1 : Below w.heap.size w w1 := chain1 hb1
      have a0 := A0.cell
      have a1 := A1.cell
      go_wp2_with fail
      refine (rtag_right _ _ _ ht).mono ?_
      rintro e w2 ⟨rfl, hb2⟩
      have hB2 := hB1.trans (hb2.mono hB1.size)
      replace A0 := A0.below hb2 A0.lt
      replace A1 := A1.below hb2 A1.lt
      clear a0 a1 hb1 hb2
      have a0 := A0.cell
      have a1 := A1.cell
      by_cases h3 : (70 : Int) < (sn : Int)
      · go_wp2_with fail
        refine (awake8 _).mono ?_
        rintro e wz ⟨rfl, hbz⟩
        go_wp2
        go_ret
        exact ⟨rfl, hB2.trans (hbz.mono hB2.size)⟩
      · by_cases h4 : sn = 0
        · subst h4
          go_wp2_with fail
          refine (awake8 _).mono ?_
          rintro e wz ⟨rfl, hbz⟩
          go_wp2
          go_ret
          exact ⟨rfl, hB2.trans (hbz.mono hB2.size)⟩
        · have h5 : ((sn : Int) == 0) = false := by simpa using h4
          have h6 : (0 : Int) < (sn : Int) := by omega
          clear h4
          go_wp2_with fail
          refine (cnone_any _).mono ?_
          rintro e w3 ⟨rfl, hb3⟩
          have M3 : Blk w3 w2.heap.size 32 #[.string t, .bool b, .int .i64 (-1), .int .i64 9, .int .i64 0, .int .i64 0, .int .i64 0, .int .i64 0, .slice none 0 0, .string ⟨#[]⟩, .bool false] := (Blk.new w2 _ _).below hb3 (by simp)
          have hB3 : Below w.heap.size w w3 := (hB2.alloc hB2.size _).trans (hb3.mono (by simp; have := hB2.size; omega))
          have l0 := A0.lt
          have l1 := A1.lt
          replace A0 := (A0.alloc _).below hb3 (by simp; omega)
          replace A1 := (A1.alloc _).below hb3 (by simp; omega)
          clear a0 a1 hb3 l0 l1
          have a0 := fun o i => (A0.alloc o).cell i
          go_upto_region 6 with fail
          obtain ⟨W, hW⟩ : ∃ W : World, W = w3.alloc (.cells #[.bool false, .string ⟨#[]⟩, .slice sa sn sc, .slice none 0 0, .slice none 0 0, .bool false, .bool false, .int .i64 (-1), .int .i64 (-1), .string s, .bool a] 29) := ⟨_, rfl⟩
          rw [← hW]
          have Q3 : Blk W w3.heap.size 29 #[.bool false, .string ⟨#[]⟩, .slice sa sn sc, .slice none 0 0, .slice none 0 0, .bool false, .bool false, .int .i64 (-1), .int .i64 (-1), .string s, .bool a] := by rw [hW]; exact Blk.new _ _ _
          have hBW : Below w.heap.size w W := by rw [hW]; exact hB3.alloc hB3.size _
          replace A0 : Blk W w.heap.size 25 #[.string s, .bool a] := by rw [hW]; exact A0.alloc _
          replace A1 : Blk W (w.heap.size + 1) 25 #[.string t, .bool b] := by rw [hW]; exact A1.alloc _
          replace M3 : Blk W w2.heap.size 32 #[.string t, .bool b, .int .i64 (-1), .int .i64 9, .int .i64 0, .int .i64 0, .int .i64 0, .int .i64 0, .slice none 0 0, .string ⟨#[]⟩, .bool false] := by rw [hW]; exact M3.alloc _
          clear a0 hB3
          have HW := hide hW
          clear hW
          go_wp2_with fail
          refine (cnone_any _).mono ?_
          rintro e w4 ⟨rfl, hb4⟩
          have hB4 := hBW.trans (hb4.mono hBW.size)
          replace A0 := A0.below hb4 A0.lt
          replace A1 := A1.below hb4 A1.lt
          replace M3 := M3.below hb4 M3.lt
          replace Q3 := Q3.below hb4 Q3.lt
          clear hb4 hBW
          have a0 := fun o i => (A0.alloc o).cell i
          go_upto_region 8 with fail
          obtain ⟨V, hV⟩ : ∃ V : World, V = (w4.alloc (.cells #[.bool false, .string ⟨#[]⟩, .slice sa sn sc, .slice (some ⟨w4.heap.size + 1, 0, none⟩) 1 1, .slice none 0 0, .bool false, .bool false, .int .i64 (-1), .int .i64 (-1), .string ⟨#[]⟩, .bool false] 29)).alloc (.cells #[.string s, .bool a] 25) := ⟨_, rfl⟩
          rw [← hV]
          have P5 : Blk V w4.heap.size 29 #[.bool false, .string ⟨#[]⟩, .slice sa sn sc, .slice (some ⟨w4.heap.size + 1, 0, none⟩) 1 1, .slice none 0 0, .bool false, .bool false, .int .i64 (-1), .int .i64 (-1), .string ⟨#[]⟩, .bool false] := by rw [hV]; exact (Blk.new _ _ _).alloc _
          have T5 : Blk V (w4.heap.size + 1) 25 #[.string s, .bool a] := by rw [hV]; exact Blk.new' (by simp)
          have hBV : Below w.heap.size w V := by rw [hV]; exact (hB4.alloc hB4.size _).alloc (by have := hB4.size; simp; omega) _
          replace A0 : Blk V w.heap.size 25 #[.string s, .bool a] := by rw [hV]; exact (A0.alloc _).alloc _
          replace A1 : Blk V (w.heap.size + 1) 25 #[.string t, .bool b] := by rw [hV]; exact (A1.alloc _).alloc _
          replace M3 : Blk V w2.heap.size 32 #[.string t, .bool b, .int .i64 (-1), .int .i64 9, .int .i64 0, .int .i64 0, .int .i64 0, .int .i64 0, .slice none 0 0, .string ⟨#[]⟩, .bool false] := by rw [hV]; exact (M3.alloc _).alloc _
          replace Q3 : Blk V w3.heap.size 29 #[.bool false, .string ⟨#[]⟩, .slice sa sn sc, .slice none 0 0, .slice none 0 0, .bool false, .bool false, .int .i64 (-1), .int .i64 (-1), .string s, .bool a] := by rw [hV]; exact (Q3.alloc _).alloc _
          clear a0 hB4
          have HV := hide hV
          clear hV
          have a0 := A0.cell
          have a1 := A1.cell
          have q3 := Q3.cell
          have m3 := M3.cell
          have hk1 : tagOk s = true := h1
          have hk2 : tagOk t = true := h2
          have hne : someTag (s, a) = true := by unfold someTag; rw [show (s.toList == []) = false from empty_no (by rintro rfl; simp [tagOk, ByteArray.size] at h1)]; rfl
          have hp : 0 < sn := by omega
          by_cases he : s = t
          · subst he
            cases a <;> cases b
            · have V1 := hide (show checkV sn [] [] false false (-1) (-1) (s, false) (s, false) (-1) 9 true = 1 by simp [checkV, c1B, c2B, c3B, hne, strongB, weakB, hk1])
              have V2 := hide (show checkV sn [(s, false)] [] false false (-1) (-1) (⟨#[]⟩, false) (s, false) (-1) 9 true = 1 by simp [checkV, c1B, c2B, c3B, inB, someTag, strongB, weakB, hk1, ByteArray.toList_eq])
              clear h1 h2 hk1 hk2 hne hp
              go_wp2_with fail
              refine (check_any false ⟨#[]⟩ sa sn sc _ _ [] [] false false (-1) (-1) _ _ _ _ (-1) 9 0 0 0 0 _ _ false true _ (by assumption) hs (RdTags.nil _ _) (RdTags.nil _ _)).mono ?_
              rintro e w6 ⟨rfl, hb6⟩
              rw [V1.out]
              have hB6 := hBV.trans (hb6.mono hBV.size)
              replace M3 := M3.below hb6 M3.lt
              replace P5 := P5.below hb6 P5.lt
              replace T5 := T5.below hb6 T5.lt
              clear a0 a1 q3 m3 hb6
              have m3 := M3.cell
              have p5 := P5.cell
              go_wp2_with fail
              refine (check_any false ⟨#[]⟩ sa sn sc _ _ [(s, _)] [] false false (-1) (-1) ⟨#[]⟩ false _ _ (-1) 9 0 0 0 0 _ _ false true _ (by assumption) (by decide) (RdTags.one hs T5.lt (T5.cell 0) (T5.cell 1)) (RdTags.nil _ _)).mono ?_
              rintro e w7 ⟨rfl, hb7⟩
              rw [V2.out]
              have hB7 := hB6.trans (hb7.mono hB6.size)
              go_wp2_with fail
              refine (awake8 _).mono ?_
              rintro e wz ⟨rfl, hbz⟩
              go_wp2
              go_ret
              exact ⟨rfl, hB7.trans (hbz.mono hB7.size)⟩
            · have V1 := hide (show checkV sn [] [] false false (-1) (-1) (s, false) (s, true) (-1) 9 true = 2 by simp [checkV, c1B, c2B, c3B, hne, strongB, weakB, hk1, hp])
              have V2 := hide (show checkV sn [(s, false)] [] false false (-1) (-1) (⟨#[]⟩, false) (s, true) (-1) 9 true = 4 by simp [checkV, c1B, inB, strongB])
              clear h1 h2 hk1 hk2 hne hp
              go_wp2_with fail
              refine (check_any false ⟨#[]⟩ sa sn sc _ _ [] [] false false (-1) (-1) _ _ _ _ (-1) 9 0 0 0 0 _ _ false true _ (by assumption) hs (RdTags.nil _ _) (RdTags.nil _ _)).mono ?_
              rintro e w6 ⟨rfl, hb6⟩
              rw [V1.out]
              have hB6 := hBV.trans (hb6.mono hBV.size)
              replace M3 := M3.below hb6 M3.lt
              replace P5 := P5.below hb6 P5.lt
              replace T5 := T5.below hb6 T5.lt
              clear a0 a1 q3 m3 hb6
              have m3 := M3.cell
              have p5 := P5.cell
              go_wp2_with fail
              refine (check_any false ⟨#[]⟩ sa sn sc _ _ [(s, _)] [] false false (-1) (-1) ⟨#[]⟩ false _ _ (-1) 9 0 0 0 0 _ _ false true _ (by assumption) (by decide) (RdTags.one hs T5.lt (T5.cell 0) (T5.cell 1)) (RdTags.nil _ _)).mono ?_
              rintro e w7 ⟨rfl, hb7⟩
              rw [V2.out]
              have hB7 := hB6.trans (hb7.mono hB6.size)
              go_wp2_with fail
              refine (awake8 _).mono ?_
              rintro e wz ⟨rfl, hbz⟩
              go_wp2
              go_ret
              exact ⟨rfl, hB7.trans (hbz.mono hB7.size)⟩
            · have V1 := hide (show checkV sn [] [] false false (-1) (-1) (s, true) (s, false) (-1) 9 true = 2 by simp [checkV, c1B, c2B, c3B, hne, strongB, weakB, hk1, hp])
              have V2 := hide (show checkV sn [(s, true)] [] false false (-1) (-1) (⟨#[]⟩, false) (s, false) (-1) 9 true = 4 by simp [checkV, c1B, inB, strongB])
              clear h1 h2 hk1 hk2 hne hp
              go_wp2_with fail
              refine (check_any false ⟨#[]⟩ sa sn sc _ _ [] [] false false (-1) (-1) _ _ _ _ (-1) 9 0 0 0 0 _ _ false true _ (by assumption) hs (RdTags.nil _ _) (RdTags.nil _ _)).mono ?_
              rintro e w6 ⟨rfl, hb6⟩
              rw [V1.out]
              have hB6 := hBV.trans (hb6.mono hBV.size)
              replace M3 := M3.below hb6 M3.lt
              replace P5 := P5.below hb6 P5.lt
              replace T5 := T5.below hb6 T5.lt
              clear a0 a1 q3 m3 hb6
              have m3 := M3.cell
              have p5 := P5.cell
              go_wp2_with fail
              refine (check_any false ⟨#[]⟩ sa sn sc _ _ [(s, _)] [] false false (-1) (-1) ⟨#[]⟩ false _ _ (-1) 9 0 0 0 0 _ _ false true _ (by assumption) (by decide) (RdTags.one hs T5.lt (T5.cell 0) (T5.cell 1)) (RdTags.nil _ _)).mono ?_
              rintro e w7 ⟨rfl, hb7⟩
              rw [V2.out]
              have hB7 := hB6.trans (hb7.mono hB6.size)
              go_wp2_with fail
              refine (awake8 _).mono ?_
              rintro e wz ⟨rfl, hbz⟩
              go_wp2
              go_ret
              exact ⟨rfl, hB7.trans (hbz.mono hB7.size)⟩
            · have V1 := hide (show checkV sn [] [] false false (-1) (-1) (s, true) (s, true) (-1) 9 true = 2 by simp [checkV, c1B, c2B, c3B, hne, strongB, weakB, hk1, hp])
              have V2 := hide (show checkV sn [(s, true)] [] false false (-1) (-1) (⟨#[]⟩, false) (s, true) (-1) 9 true = 4 by simp [checkV, c1B, inB, strongB])
              clear h1 h2 hk1 hk2 hne hp
              go_wp2_with fail
              refine (check_any false ⟨#[]⟩ sa sn sc _ _ [] [] false false (-1) (-1) _ _ _ _ (-1) 9 0 0 0 0 _ _ false true _ (by assumption) hs (RdTags.nil _ _) (RdTags.nil _ _)).mono ?_
              rintro e w6 ⟨rfl, hb6⟩
              rw [V1.out]
              have hB6 := hBV.trans (hb6.mono hBV.size)
              replace M3 := M3.below hb6 M3.lt
              replace P5 := P5.below hb6 P5.lt
              replace T5 := T5.below hb6 T5.lt
              clear a0 a1 q3 m3 hb6
              have m3 := M3.cell
              have p5 := P5.cell
              go_wp2_with fail
              refine (check_any false ⟨#[]⟩ sa sn sc _ _ [(s, _)] [] false false (-1) (-1) ⟨#[]⟩ false _ _ (-1) 9 0 0 0 0 _ _ false true _ (by assumption) (by decide) (RdTags.one hs T5.lt (T5.cell 0) (T5.cell 1)) (RdTags.nil _ _)).mono ?_
              rintro e w7 ⟨rfl, hb7⟩
              rw [V2.out]
              have hB7 := hB6.trans (hb7.mono hB6.size)
              go_wp2_with fail
              refine (awake8 _).mono ?_
              rintro e wz ⟨rfl, hbz⟩
              go_wp2
              go_ret
              exact ⟨rfl, hB7.trans (hbz.mono hB7.size)⟩
          · have e1 : (s.toList == t.toList) = false := by rw [ByteArray.toList_eq, ByteArray.toList_eq]; simp only [beq_eq_false_iff_ne, ne_eq]; exact fun e => he (by apply ByteArray.ext; exact Array.toList_inj.1 e)
            have e2 : (t.toList == s.toList) = false := by rw [beq_eq_false_iff_ne] at e1 ⊢; exact fun e => e1 e.symm
            have V1 := hide (show checkV sn [] [] false false (-1) (-1) (s, a) (t, b) (-1) 9 true = 2 by simp [checkV, c1B, c2B, c3B, hne, strongB, weakB, e2, hp])
            have V2 := hide (show checkV sn [(s, a)] [] false false (-1) (-1) (⟨#[]⟩, false) (t, b) (-1) 9 true = 4 by simp [checkV, c1B, inB, strongB, weakB, e1])
            clear h1 h2 hk1 hk2 hne hp
            go_wp2_with fail
            refine (check_any false ⟨#[]⟩ sa sn sc _ _ [] [] false false (-1) (-1) _ _ _ _ (-1) 9 0 0 0 0 _ _ false true _ (by assumption) hs (RdTags.nil _ _) (RdTags.nil _ _)).mono ?_
            rintro e w6 ⟨rfl, hb6⟩
            rw [V1.out]
            have hB6 := hBV.trans (hb6.mono hBV.size)
            replace M3 := M3.below hb6 M3.lt
            replace P5 := P5.below hb6 P5.lt
            replace T5 := T5.below hb6 T5.lt
            clear a0 a1 q3 m3 hb6
            have m3 := M3.cell
            have p5 := P5.cell
            go_wp2_with fail
            refine (check_any false ⟨#[]⟩ sa sn sc _ _ [(s, _)] [] false false (-1) (-1) ⟨#[]⟩ false _ _ (-1) 9 0 0 0 0 _ _ false true _ (by assumption) (by decide) (RdTags.one hs T5.lt (T5.cell 0) (T5.cell 1)) (RdTags.nil _ _)).mono ?_
            rintro e w7 ⟨rfl, hb7⟩
            rw [V2.out]
            have hB7 := hB6.trans (hb7.mono hB6.size)
            go_wp2_with fail
            refine (awake8 _).mono ?_
            rintro e wz ⟨rfl, hbz⟩
            go_wp2
            go_ret
            exact ⟨rfl, hB7.trans (hbz.mono hB7.size)⟩
    · have h2' : tagOk t = false := by simpa using h2
      clear h2
      go_enter Try.func5, Try.ntmps5
      go_wp2_with fail
      refine (rtag_right _ _ _ hs).mono ?_
      rintro e w1 ⟨rfl, hb1⟩
      have A1 : Blk w1 (w.heap.size + 1) 25 #[.string t, .bool b] := (Blk.new' (by simp)).below hb1 (by simp)
      have hB1 : Below w.heap.size w w1 := chain1 hb1
      have a1 := A1.cell
      go_wp2_with fail
      refine (rtag_right _ _ _ ht).mono ?_
      rintro e w2 ⟨rfl, hb2⟩
      have hB2 := hB1.trans (hb2.mono hB1.size)
      go_wp2_with fail
      refine (awake8 _).mono ?_
      rintro e wz ⟨rfl, hbz⟩
      go_wp2
      go_ret
      exact ⟨rfl, hB2.trans (hbz.mono hB2.size)⟩
  · have h1' : tagOk s = false := by simpa using h1
    clear h1
    go_enter Try.func5, Try.ntmps5
    go_wp2_with fail
    refine (rtag_right _ _ _ hs).mono ?_
    rintro e w1 ⟨rfl, hb1⟩
    have hB1 : Below w.heap.size w w1 := chain1 hb1
    go_wp2_with fail
    refine (awake8 _).mono ?_
    rintro e wz ⟨rfl, hbz⟩
    go_wp2
    go_ret
    exact ⟨rfl, hB1.trans (hbz.mono hB1.size)⟩

theorem ps : ∀ t ∈ Try.f5.params.toList, Try.prog.readableRec t = true ∧ t < Try.prog.types.size := by
  rw [Try.params5]
  intro t ht
  simp at ht
  rcases ht with rfl | rfl | rfl
  all_goals exact ⟨by kernel_rfl, of_decide_eq_true (by kernel_rfl)⟩

set_option maxRecDepth 100000 in
theorem lifted (os : Os) (started : os.Started) (H : Type) (enc : TypeId × Value → H) :
    ReturnsInHanded {} Try.checked os 5 .any (Rows.condStrictSpec.pre6 enc Try.prog Try.f5 Rows.condStrictRow.domain false) (Rows.condStrictSpec.post enc Try.prog Try.f5 false true false false) := by
  refine returnsInHanded_of_change (C := Try.checked) law_own started (by kernel_rfl) Try.func5
    (ChangeSpec.witness6 (enc := enc) (C := Try.checked) false ⟨#[], #[.agg #[.string ByteArray.empty, .bool false], .agg #[.string ByteArray.empty, .bool false], .slice none 0 0], []⟩ 8 (by kernel_rfl) (by kernel_rfl) (by kernel_rfl) (by kernel_rfl)) ?_
  intro W base args ds gs before hval0 hW hcnd _
  have hval : ∀ (j : Nat) t v, Try.f5.params[j]? = some t → args[j]? = some v → Value.okWide Try.prog W .any base t v := hval0
  have hW' := hW
  have hlt : ∀ p ∈ before, p.block < W.heap.size := fun p hp => hW.lt p hp
  obtain ⟨p, q, hA0, hV, rfl, hfz, hnd⟩ := hW
  have hA : DataW.TrodAll enc Try.prog W 0 (fun _ => true) true Try.f5.params.toList args.toList ds p := hA0
  rw [Try.params5] at hA hval
  obtain ⟨v0, vs0, d0, ds0, p0, q0, hargs, rfl, rfl, h0, r0⟩ := trodAll_cons hA
  obtain ⟨v1, vs1, d1, ds1, p1, q1, rfl, rfl, rfl, h1, r1⟩ := trodAll_cons r0
  obtain ⟨v2, vs2, d2, ds2, p2, q2, rfl, rfl, rfl, h2, r2⟩ := trodAll_cons r1
  obtain ⟨rfl, rfl, rfl⟩ := trodAll_nil r2
  obtain rfl : args = #[v0, v1, v2] := by cases args; simp_all
  obtain ⟨rfl, rfl⟩ := trodVars_none hV
  obtain ⟨c0, f0, x0, rfl, t0⟩ := open_struct Try.underlying25 (hval 0 25 v0 rfl rfl) h0
  obtain ⟨s, a, rfl, w0⟩ := open_tag t0
  obtain ⟨c1, f1, x1, rfl, t1⟩ := open_struct Try.underlying25 (hval 1 25 v1 rfl rfl) h1
  obtain ⟨t, b, rfl, w1⟩ := open_tag t1
  obtain ⟨sa, sn, sc, rfl, w2⟩ := open_slice_len Try.underlying22 (hval 2 22 v2 rfl rfl) h2
  clear hA0 hval0
  refine (walk s t a b sa sn sc (Nat.le_trans w0 mLen) (Nat.le_trans w1 mLen) (Nat.le_trans w2 mLen) W).mono fun e W' ⟨he, hb⟩ => ?_
  subst he
  exact ⟨_, rfl, law_close hW' rfl rfl rfl ps hb⟩

theorem proved : Rows.CondStrictSaid :=
  OpenClaim.holds_of_wide 5 Try.f5 rfl rfl rfl rfl rfl rfl rfl ⟨rfl, rfl, rfl, rfl, rfl⟩ rfl rfl rfl rfl rfl (by kernel_rfl) Try.func5 (by kernel_rfl)
    (of_decide_eq_true (by kernel_rfl)) (by unfold Func.isWrapper; first | (rw [if_pos (by decide +kernel)]; kernel_rfl) | (rw [if_neg (by decide +kernel)]; exact ⟨rfl, rfl⟩))
    (fun os started H enc _ => lifted os started H enc)
#print axioms proved
end Go.Proofs.Ytfbefjpajmigmaa.condStrict
