/-
  Blanks ahead of a list and behind it, and empty parts, make no difference; nor does a comma more at either end: for every text.
-/
import Derived.Test.YtnipbhmacfnjfaaDoorTagZ
import Derived.Test.YtnipbhmacfnjfaaDoorTagU
import Derived.Test.YtnipbhmacfnjfaaDoorTagR
import Derived.Test.YtnipbhmacfnjfaaDoorOpenT
import Derived.Test.YtnipbhmacfnjfaaDoorOpenC
import Derived.Test.YtnipbhmacfnjfaaDoorLaidT
import Derived.Test.YtnipbhmacfnjfaaDoorLift
import Derived.Test.YtnipbhmacfnjfaaDoorTie
import Derived.Test.YtnipbhmacfnjfaaDoorCards
import Derived.SevenTiedAt
import Derived.Deep.DeepCutAuto
import Derived.Deep.RegionHeld3
import Derived.Test.YtnipbhmacfnjfaaDoorOwnS
namespace Go.Proofs.YtnipbhmacfnjfaaDoor.tagBlanks
open Go.ChangeShapes Go.WideShapes Go.ChangeAt Go.RowKit Go.Deep
set_option linter.unusedVariables false
set_option linter.unusedSimpArgs false

theorem rlist_lit {s : ByteArray} {r : ListR} (h : listB s.data.toList = r) (w : World) (hs : s.size ≤ 1000000) : Calls Tryd.prog 24 #[.string s] w (ListOk r w) := h ▸ rlist_any s w hs
theorem same_self (v1 v2 : Value) (l : List TagL) (w : World) (hr1 : RdL LT w w.heap.size v1 l) (hr2 : RdL LT w w.heap.size v2 l) : Calls Tryd.prog 25 #[v1, v2] w (BoolOk true w) := by
  have h := same_any v1 v2 l l w hr1 hr2
  rw [decide_eq_true rfl] at h
  exact h
theorem listB_any {s : Bs} {r : ListR} (h : listB s = r) : r.any = true → r.e = 0 := by
  subst h
  unfold listB
  by_cases hs : (trimB s == [42]) = true
  · rw [if_pos hs]; intro _; rfl
  · rw [if_neg hs]
    intro h
    unfold listR at h
    cases hf : foldT [] (splitQ false [] s) with
    | none => rw [hf] at h; cases h
    | some ts =>
      rw [hf] at h
      simp only at h
      by_cases h1 : ts.isEmpty = true
      · rw [if_pos h1] at h; cases h
      · rw [if_neg h1] at h
        by_cases h2 : 64 < ts.length
        · rw [if_pos h2] at h; cases h
        · rw [if_neg h2] at h; cases h

set_option maxRecDepth 100000 in
set_option maxHeartbeats 2000000 in
theorem walk (s : ByteArray) (k : Nat) (w : World) (hs : s.size ≤ 9223372036854775807) (hk : k < 256) (hkk : ((k : Int) % 3 = 0) ∨ ((k : Int) % 3 = 1) ∨ ((k : Int) % 3 = 2)) : Calls Tryd.prog 9 #[.string s, .int .u8 (k : Int)] w (BoolOk true w) := by
  go_enter Tryd.func9, Tryd.ntmps9
  go_wp2_with fail
  refine (awake5 _).mono ?_
  rintro e w1 ⟨rfl, hb1⟩
  have hB1 := (Below.refl w.heap.size w).trans (hb1.mono (Below.refl w.heap.size w).size)
  clear hb1
  
  by_cases h3 : 300 < s.size
  · have d3 : decide ((s.size : Int) > 300) = true := decide_eq_true (by omega)
    go_wp2_with fail
    refine (awake5 _).mono ?_
    rintro e w2 ⟨rfl, hb2⟩
    have hB2 := hB1.trans (hb2.mono hB1.size)
    clear hb2
    
    go_wp2_with fail
    go_ret
    exact ⟨rfl, hB2⟩
  · have d3 : decide ((s.size : Int) > 300) = false := decide_eq_false (by omega)
    obtain ⟨r, hr⟩ : ∃ r, listB s.data.toList = r := ⟨_, rfl⟩
    obtain ⟨an, en, ls⟩ := r
    have HR := hide hr
    have HA := hide (listB_any hr)
    clear hr
    rcases hkk with hkk | hkk | hkk
    · go_wp2_with fail
      refine (list_lit HR.out _ (by omega)).mono ?_
      rintro e w2 ⟨v1, rfl, O1, hb2⟩
      have hB2 := hB1.trans (hb2.mono hB1.size)
      clear hb2
      
      replace O1 := OwnL.mono O1 hB1.size
      obtain ⟨t, ht⟩ : ∃ t : ByteArray, t = ⟨#[32]⟩ ++ s := ⟨_, rfl⟩
      have htl : listB t.data.toList = ⟨an, en, ls⟩ := by
        rw [ht]
        have := list_blanks (p := [32]) (s := s.data.toList) (b := []) rfl rfl
        rw [HR.out] at this
        rw [← this]
        congr 1 <;> simp [ByteArray.data_append]
      have hts : t.size ≤ 1000000 := by
        rw [ht]
        simp only [ByteArray.size_append]
        have q1 : (⟨#[32]⟩ : ByteArray).size = 1 := rfl
        have q2 : (⟨#[9]⟩ : ByteArray).size = 1 := rfl
        have q3 : (⟨#[9, 32]⟩ : ByteArray).size = 2 := rfl
        omega
      have HTL := hide htl
      have HTV := hide ht
      clear htl ht
      go_wp2_with fail
      rw [← HTV.out]
      obtain ⟨w3, hw3⟩ : ∃ W : World, W = w2.alloc (.cells #[.string (⟨#[32]⟩ ++ s), .string (s ++ ⟨#[9, 32]⟩), .string ((⟨#[9]⟩ ++ s) ++ ⟨#[32]⟩)] 9) := ⟨_, rfl⟩
      first | rw [← hw3] | (rw [HTV.out, ← hw3, ← HTV.out])
      have hB3 : Below w.heap.size w w3 := by rw [hw3]; exact hB2.alloc hB2.size _
      replace O1 := O1.alloc (.cells #[.string (⟨#[32]⟩ ++ s), .string (s ++ ⟨#[9, 32]⟩), .string ((⟨#[9]⟩ ++ s) ++ ⟨#[32]⟩)] 9)
      rw [← hw3] at O1
      clear hw3
      refine (list_lit HTL.out _ hts).mono ?_
      rintro e w4 ⟨v2, rfl, O2, hb4⟩
      have hB4 := hB3.trans (hb4.mono hB3.size)
      replace O1 := O1.below hb4 (Nat.le_refl _)
      clear hb4
      
      replace O2 := OwnL.mono O2 hB3.size
      go_wp2_with fail
      refine (same_self _ _ ls _ O1.rd O2.rd).mono ?_
      rintro e w5 ⟨rfl, hb5⟩
      have hB5 := hB4.trans (hb5.mono hB4.size)
      replace O1 := O1.below hb5 (Nat.le_refl _)
      replace O2 := O2.below hb5 (Nat.le_refl _)
      clear hb5
      
      cases an
      · by_cases he2 : en = 2
        · have d2 : (((en : Nat) : Int) == 2) = true := by rw [he2]; rfl
          clear he2
          go_wp2_with fail
          go_ret
          exact ⟨rfl, hB5⟩
        · have d2 : (((en : Nat) : Int) == 2) = false := by rw [beq_eq_false_iff_ne]; omega
          obtain ⟨t2, ht2⟩ : ∃ t2 : ByteArray, t2 = (⟨#[44]⟩ ++ s) ++ ⟨#[32, 44, 32]⟩ := ⟨_, rfl⟩
          have hr3 : listB t2.data.toList = ⟨false, en, ls⟩ := by
            have h1 : (listB s.data.toList).any = false := by rw [HR.out]
            have h2 : (listB s.data.toList).e ≠ 2 := by rw [HR.out]; exact he2
            rw [← HR.out, ← list_commas h1 h2, ht2]
            congr 1 <;> simp [ByteArray.data_append]
          have ht2s : t2.size ≤ 1000000 := by
            rw [ht2]
            simp only [ByteArray.size_append]
            have q1 : (⟨#[44]⟩ : ByteArray).size = 1 := rfl
            have q2 : (⟨#[32, 44, 32]⟩ : ByteArray).size = 3 := rfl
            omega
          have HR3 := hide hr3
          have HT2 := hide ht2
          clear hr3 he2 ht2
          go_wp2_with fail
          rw [← HT2.out]
          refine (list_lit HR3.out _ ht2s).mono ?_
          rintro e w6 ⟨v3, rfl, O3, hb6⟩
          have hB6 := hB5.trans (hb6.mono hB5.size)
          replace O1 := O1.below hb6 (Nat.le_refl _)
          replace O2 := O2.below hb6 (Nat.le_refl _)
          clear hb6
          
          replace O3 := OwnL.mono O3 hB5.size
          go_wp2_with fail
          refine (same_self _ _ ls _ O1.rd O3.rd).mono ?_
          rintro e w7 ⟨rfl, hb7⟩
          have hB7 := hB6.trans (hb7.mono hB6.size)
          replace O1 := O1.below hb7 (Nat.le_refl _)
          replace O2 := O2.below hb7 (Nat.le_refl _)
          replace O3 := O3.below hb7 (Nat.le_refl _)
          clear hb7
          
          go_wp2_with fail
          go_ret
          exact ⟨rfl, hB7⟩
      · go_wp2_with fail
        go_ret
        exact ⟨rfl, hB5⟩
    · go_wp2_with fail
      refine (list_lit HR.out _ (by omega)).mono ?_
      rintro e w2 ⟨v1, rfl, O1, hb2⟩
      have hB2 := hB1.trans (hb2.mono hB1.size)
      clear hb2
      
      replace O1 := OwnL.mono O1 hB1.size
      obtain ⟨t, ht⟩ : ∃ t : ByteArray, t = s ++ ⟨#[9, 32]⟩ := ⟨_, rfl⟩
      have htl : listB t.data.toList = ⟨an, en, ls⟩ := by
        rw [ht]
        have := list_blanks (p := []) (s := s.data.toList) (b := [9, 32]) rfl rfl
        rw [HR.out] at this
        rw [← this]
        congr 1 <;> simp [ByteArray.data_append]
      have hts : t.size ≤ 1000000 := by
        rw [ht]
        simp only [ByteArray.size_append]
        have q1 : (⟨#[32]⟩ : ByteArray).size = 1 := rfl
        have q2 : (⟨#[9]⟩ : ByteArray).size = 1 := rfl
        have q3 : (⟨#[9, 32]⟩ : ByteArray).size = 2 := rfl
        omega
      have HTL := hide htl
      have HTV := hide ht
      clear htl ht
      go_wp2_with fail
      rw [← HTV.out]
      obtain ⟨w3, hw3⟩ : ∃ W : World, W = w2.alloc (.cells #[.string (⟨#[32]⟩ ++ s), .string (s ++ ⟨#[9, 32]⟩), .string ((⟨#[9]⟩ ++ s) ++ ⟨#[32]⟩)] 9) := ⟨_, rfl⟩
      first | rw [← hw3] | (rw [HTV.out, ← hw3, ← HTV.out])
      have hB3 : Below w.heap.size w w3 := by rw [hw3]; exact hB2.alloc hB2.size _
      replace O1 := O1.alloc (.cells #[.string (⟨#[32]⟩ ++ s), .string (s ++ ⟨#[9, 32]⟩), .string ((⟨#[9]⟩ ++ s) ++ ⟨#[32]⟩)] 9)
      rw [← hw3] at O1
      clear hw3
      refine (list_lit HTL.out _ hts).mono ?_
      rintro e w4 ⟨v2, rfl, O2, hb4⟩
      have hB4 := hB3.trans (hb4.mono hB3.size)
      replace O1 := O1.below hb4 (Nat.le_refl _)
      clear hb4
      
      replace O2 := OwnL.mono O2 hB3.size
      go_wp2_with fail
      refine (same_self _ _ ls _ O1.rd O2.rd).mono ?_
      rintro e w5 ⟨rfl, hb5⟩
      have hB5 := hB4.trans (hb5.mono hB4.size)
      replace O1 := O1.below hb5 (Nat.le_refl _)
      replace O2 := O2.below hb5 (Nat.le_refl _)
      clear hb5
      
      cases an
      · by_cases he2 : en = 2
        · have d2 : (((en : Nat) : Int) == 2) = true := by rw [he2]; rfl
          clear he2
          go_wp2_with fail
          go_ret
          exact ⟨rfl, hB5⟩
        · have d2 : (((en : Nat) : Int) == 2) = false := by rw [beq_eq_false_iff_ne]; omega
          obtain ⟨t2, ht2⟩ : ∃ t2 : ByteArray, t2 = (⟨#[44]⟩ ++ s) ++ ⟨#[32, 44, 32]⟩ := ⟨_, rfl⟩
          have hr3 : listB t2.data.toList = ⟨false, en, ls⟩ := by
            have h1 : (listB s.data.toList).any = false := by rw [HR.out]
            have h2 : (listB s.data.toList).e ≠ 2 := by rw [HR.out]; exact he2
            rw [← HR.out, ← list_commas h1 h2, ht2]
            congr 1 <;> simp [ByteArray.data_append]
          have ht2s : t2.size ≤ 1000000 := by
            rw [ht2]
            simp only [ByteArray.size_append]
            have q1 : (⟨#[44]⟩ : ByteArray).size = 1 := rfl
            have q2 : (⟨#[32, 44, 32]⟩ : ByteArray).size = 3 := rfl
            omega
          have HR3 := hide hr3
          have HT2 := hide ht2
          clear hr3 he2 ht2
          go_wp2_with fail
          rw [← HT2.out]
          refine (list_lit HR3.out _ ht2s).mono ?_
          rintro e w6 ⟨v3, rfl, O3, hb6⟩
          have hB6 := hB5.trans (hb6.mono hB5.size)
          replace O1 := O1.below hb6 (Nat.le_refl _)
          replace O2 := O2.below hb6 (Nat.le_refl _)
          clear hb6
          
          replace O3 := OwnL.mono O3 hB5.size
          go_wp2_with fail
          refine (same_self _ _ ls _ O1.rd O3.rd).mono ?_
          rintro e w7 ⟨rfl, hb7⟩
          have hB7 := hB6.trans (hb7.mono hB6.size)
          replace O1 := O1.below hb7 (Nat.le_refl _)
          replace O2 := O2.below hb7 (Nat.le_refl _)
          replace O3 := O3.below hb7 (Nat.le_refl _)
          clear hb7
          
          go_wp2_with fail
          go_ret
          exact ⟨rfl, hB7⟩
      · go_wp2_with fail
        go_ret
        exact ⟨rfl, hB5⟩
    · go_wp2_with fail
      refine (list_lit HR.out _ (by omega)).mono ?_
      rintro e w2 ⟨v1, rfl, O1, hb2⟩
      have hB2 := hB1.trans (hb2.mono hB1.size)
      clear hb2
      
      replace O1 := OwnL.mono O1 hB1.size
      obtain ⟨t, ht⟩ : ∃ t : ByteArray, t = (⟨#[9]⟩ ++ s) ++ ⟨#[32]⟩ := ⟨_, rfl⟩
      have htl : listB t.data.toList = ⟨an, en, ls⟩ := by
        rw [ht]
        have := list_blanks (p := [9]) (s := s.data.toList) (b := [32]) rfl rfl
        rw [HR.out] at this
        rw [← this]
        congr 1 <;> simp [ByteArray.data_append]
      have hts : t.size ≤ 1000000 := by
        rw [ht]
        simp only [ByteArray.size_append]
        have q1 : (⟨#[32]⟩ : ByteArray).size = 1 := rfl
        have q2 : (⟨#[9]⟩ : ByteArray).size = 1 := rfl
        have q3 : (⟨#[9, 32]⟩ : ByteArray).size = 2 := rfl
        omega
      have HTL := hide htl
      have HTV := hide ht
      clear htl ht
      go_wp2_with fail
      rw [← HTV.out]
      obtain ⟨w3, hw3⟩ : ∃ W : World, W = w2.alloc (.cells #[.string (⟨#[32]⟩ ++ s), .string (s ++ ⟨#[9, 32]⟩), .string ((⟨#[9]⟩ ++ s) ++ ⟨#[32]⟩)] 9) := ⟨_, rfl⟩
      first | rw [← hw3] | (rw [HTV.out, ← hw3, ← HTV.out])
      have hB3 : Below w.heap.size w w3 := by rw [hw3]; exact hB2.alloc hB2.size _
      replace O1 := O1.alloc (.cells #[.string (⟨#[32]⟩ ++ s), .string (s ++ ⟨#[9, 32]⟩), .string ((⟨#[9]⟩ ++ s) ++ ⟨#[32]⟩)] 9)
      rw [← hw3] at O1
      clear hw3
      refine (list_lit HTL.out _ hts).mono ?_
      rintro e w4 ⟨v2, rfl, O2, hb4⟩
      have hB4 := hB3.trans (hb4.mono hB3.size)
      replace O1 := O1.below hb4 (Nat.le_refl _)
      clear hb4
      
      replace O2 := OwnL.mono O2 hB3.size
      go_wp2_with fail
      refine (same_self _ _ ls _ O1.rd O2.rd).mono ?_
      rintro e w5 ⟨rfl, hb5⟩
      have hB5 := hB4.trans (hb5.mono hB4.size)
      replace O1 := O1.below hb5 (Nat.le_refl _)
      replace O2 := O2.below hb5 (Nat.le_refl _)
      clear hb5
      
      cases an
      · by_cases he2 : en = 2
        · have d2 : (((en : Nat) : Int) == 2) = true := by rw [he2]; rfl
          clear he2
          go_wp2_with fail
          go_ret
          exact ⟨rfl, hB5⟩
        · have d2 : (((en : Nat) : Int) == 2) = false := by rw [beq_eq_false_iff_ne]; omega
          obtain ⟨t2, ht2⟩ : ∃ t2 : ByteArray, t2 = (⟨#[44]⟩ ++ s) ++ ⟨#[32, 44, 32]⟩ := ⟨_, rfl⟩
          have hr3 : listB t2.data.toList = ⟨false, en, ls⟩ := by
            have h1 : (listB s.data.toList).any = false := by rw [HR.out]
            have h2 : (listB s.data.toList).e ≠ 2 := by rw [HR.out]; exact he2
            rw [← HR.out, ← list_commas h1 h2, ht2]
            congr 1 <;> simp [ByteArray.data_append]
          have ht2s : t2.size ≤ 1000000 := by
            rw [ht2]
            simp only [ByteArray.size_append]
            have q1 : (⟨#[44]⟩ : ByteArray).size = 1 := rfl
            have q2 : (⟨#[32, 44, 32]⟩ : ByteArray).size = 3 := rfl
            omega
          have HR3 := hide hr3
          have HT2 := hide ht2
          clear hr3 he2 ht2
          go_wp2_with fail
          rw [← HT2.out]
          refine (list_lit HR3.out _ ht2s).mono ?_
          rintro e w6 ⟨v3, rfl, O3, hb6⟩
          have hB6 := hB5.trans (hb6.mono hB5.size)
          replace O1 := O1.below hb6 (Nat.le_refl _)
          replace O2 := O2.below hb6 (Nat.le_refl _)
          clear hb6
          
          replace O3 := OwnL.mono O3 hB5.size
          go_wp2_with fail
          refine (same_self _ _ ls _ O1.rd O3.rd).mono ?_
          rintro e w7 ⟨rfl, hb7⟩
          have hB7 := hB6.trans (hb7.mono hB6.size)
          replace O1 := O1.below hb7 (Nat.le_refl _)
          replace O2 := O2.below hb7 (Nat.le_refl _)
          replace O3 := O3.below hb7 (Nat.le_refl _)
          clear hb7
          
          go_wp2_with fail
          go_ret
          exact ⟨rfl, hB7⟩
      · go_wp2_with fail
        go_ret
        exact ⟨rfl, hB5⟩

theorem ps : ∀ t ∈ Tryd.f9.params.toList, Tryd.prog.readableRec t = true ∧ t < Tryd.prog.types.size := by
  rw [Tryd.params9]
  intro t ht
  simp at ht
  rcases ht with rfl | rfl
  all_goals exact ⟨by kernel_rfl, of_decide_eq_true (by kernel_rfl)⟩

set_option maxRecDepth 100000 in
theorem lifted (os : Os) (started : os.Started) (H : Type) (enc : TypeId × Value → H) :
    ReturnsInHanded {} Tryd.checked os 9 .any (fun w args => (Rows.tagBlanksSpec.pre enc Tryd.prog Tryd.f9 [] false w args ∧ laidMetH Tryd.prog laidL w) ∧ sizedMet enc Tryd.prog Tryd.f9 (OpenSpec.ofChange Rows.tagBlanksSpec) false w args) (Rows.tagBlanksSpec.post enc Tryd.prog Tryd.f9 false true false false) := by
  refine returnsInHanded_of_change_and (C := Tryd.checked) (X := fun w _ => laidMetH Tryd.prog laidL w) (fun _ _ _ hh h => h.of_heap hh) law_own started (by kernel_rfl) Tryd.func9
    (ChangeSpec.witness_shaped (enc := enc) (C := Tryd.checked) (os := os) (X := fun w _ => laidMetH Tryd.prog laidL w) false (World.laidAll Tryd.prog os laidL) #[.string ByteArray.empty, .int .u8 0] 8 (World.laidAll_os _ _ _) (World.shaped_of_ZipB (by kernel_rfl) (by kernel_rfl)) (by kernel_rfl) (by kernel_rfl) (by kernel_rfl) (by rw [MakeChecks.laidMetH_plain _ _ _ (by kernel_rfl)]; exact laidMet_laidAll _ (by kernel_rfl) (by kernel_rfl))) ?_
  intro W base args ds gs before hval0 hW _ hsz hL _
  have hval : ∀ (j : Nat) t v, Tryd.f9.params[j]? = some t → args[j]? = some v → Value.okWide Tryd.prog W .any base t v := hval0
  have hW' := hW
  have hlt : ∀ p ∈ before, p.block < W.heap.size := fun p hp => hW.lt p hp
  obtain ⟨p, q, hA0, hV, rfl, hfz, hnd⟩ := hW
  have hA : DataW.TrodAll enc Tryd.prog W 0 (fun _ => true) true Tryd.f9.params.toList args.toList ds p := hA0
  rw [Tryd.params9] at hA hval
  obtain ⟨v0, vs0, d0, ds0, p0, q0, hargs, rfl, rfl, h0, r0⟩ := trodAll_cons hA
  obtain ⟨v1, vs1, d1, ds1, p1, q1, rfl, rfl, rfl, h1, r1⟩ := trodAll_cons r0
  obtain ⟨rfl, rfl, rfl⟩ := trodAll_nil r1
  obtain rfl : args = #[v0, v1] := by cases args; simp_all
  obtain ⟨rfl, rfl⟩ := trodVars_none hV
  obtain ⟨s, rfl, rfl, rfl, hs⟩ := ChangeMaps.open_string Tryd.underlying9 (hval 0 9 v0 rfl rfl) h0
  obtain ⟨z, rfl, rfl, rfl, hz⟩ := open_int Tryd.underlying5 (hval 1 5 v1 rfl rfl) h1
  have k0 : IntKind.u8.min = 0 := by decide
  have k1 : IntKind.u8.max = 255 := by decide
  have hz' : 0 ≤ z ∧ z ≤ 255 := by simpa [Lit.wf, k0, k1] using hz
  obtain ⟨k, rfl⟩ : ∃ k : Nat, z = (k : Int) := ⟨z.toNat, by omega⟩
  clear hA0 hval0
  refine (walk s k W (Nat.le_trans hs mLen) (by omega) (by omega)).mono fun e W' ⟨he, hb⟩ => ?_
  subst he
  exact ⟨_, rfl, law_close hW' rfl rfl rfl ps hb⟩

theorem row : Rows.TagBlanksSaid :=
  OpenClaim.holds_of_wide 9 Tryd.f9 rfl rfl rfl rfl rfl rfl rfl ⟨rfl, rfl, rfl, rfl, rfl⟩ rfl rfl rfl rfl rfl (by kernel_rfl) Tryd.func9 (by kernel_rfl)
    (of_decide_eq_true (by kernel_rfl)) (by unfold Func.isWrapper; first | (rw [if_pos (by decide +kernel)]; kernel_rfl) | (rw [if_neg (by decide +kernel)]; exact ⟨rfl, rfl⟩))
    (fun os started H enc _ => lifted os started H enc)
theorem proved : Rows.TagBlanksCardSaid :=
  Claim7.holds_tied_plain_at .later [] [.data, .pinned] true (true, "c41245ace16549ad04269c2019393a4276d1d6229939c27fe57ac0f1b86a51db") false
    row (fun _ h => by cases h) (by kernel_rfl) (fun _ h => by cases h) tagBlanks_row_tie rfl ⟨rfl, rfl⟩ (by kernel_rfl) rfl
    (fun f fn hf hfn => by
      obtain rfl : f = 9 := Option.some.inj ((show Tryd.prog.funcNamed "mandoline/mandolinelaw05.TagBlanks" = some 9 by kernel_rfl).symm.trans hf) |>.symm
      obtain rfl : fn = Tryd.f9 := (Option.some.inj (Tryd.func9.symm.trans hfn)).symm
      exact ⟨by kernel_rfl, fun j t ht => by
        rw [Tryd.params9] at ht
        have hm : t ∈ [9, 5] := by simpa using Array.mem_of_getElem? ht
        have hall : ([9, 5].all fun u => !Tryd.prog.wantsStandIn u) = true := by kernel_rfl
        exact (show Tryd.prog.wantsStandIn t = false by simpa using List.all_eq_true.1 hall t hm)⟩)
    (by kernel_rfl)
#print axioms proved

end Go.Proofs.YtnipbhmacfnjfaaDoor.tagBlanks
