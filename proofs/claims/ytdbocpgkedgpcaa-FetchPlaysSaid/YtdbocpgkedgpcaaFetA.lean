/-
  Whether a fetch may be asked: the program's functions and the reference's.
-/
import Derived.Test.YtdbocpgkedgpcaaSmallA
import Derived.Test.YtdbocpgkedgpcaaTagC
namespace Go.Proofs.Ytdbocpgkedgpcaa
open Go.RowKit
set_option linter.unusedVariables false
set_option linter.unusedSimpArgs false

def fRight (ob : ByteArray) (fa fb : Int) (f n : Tag) : Bool := objOk ob && (spanOk fa fb && (decide (fa < fb) && (strictB f && (strictB n && !(someTag f && someTag n)))))

set_option maxHeartbeats 400000 in
theorem there_any (s : ByteArray) (b : Bool) (w : World) : Calls Try.prog 31 #[.agg #[.string s, .bool b]] w (BoolOk (someTag (s, b)) w) := by
  by_cases hs : s = ⟨#[]⟩
  · subst hs
    cases b
    · have hx := hide some_zero
      go_enter Try.func31, Try.ntmps31
      go_wp2
      go_ret
      exact ⟨ret_bool (by rw [hx.out]; try rfl), (Below.refl _ _).alloc (Nat.le_refl _) _⟩
    · have hx := hide (some_weak ⟨#[]⟩)
      go_enter Try.func31, Try.ntmps31
      go_wp2
      go_ret
      exact ⟨ret_bool (by rw [hx.out]; try rfl), (Below.refl _ _).alloc (Nat.le_refl _) _⟩
  · have hx := hide (some_text (b := b) hs)
    have e1 := empty_no hs
    have e2 := empty_no' hs
    go_enter Try.func31, Try.ntmps31
    go_wp2
    go_ret
    exact ⟨ret_bool (by rw [hx.out]; try rfl), (Below.refl _ _).alloc (Nat.le_refl _) _⟩

set_option maxHeartbeats 400000 in
theorem rthere_any (s : ByteArray) (b : Bool) (w : World) : Calls Try.prog 35 #[.agg #[.string s, .bool b]] w (BoolOk (someTag (s, b)) w) := by
  by_cases hs : s = ⟨#[]⟩
  · subst hs
    cases b
    · have hx := hide some_zero
      go_enter Try.func35, Try.ntmps35
      go_wp2
      go_ret
      exact ⟨ret_bool (by rw [hx.out]; try rfl), (Below.refl _ _).alloc (Nat.le_refl _) _⟩
    · have hx := hide (some_weak ⟨#[]⟩)
      go_enter Try.func35, Try.ntmps35
      go_wp2
      go_ret
      exact ⟨ret_bool (by rw [hx.out]; try rfl), (Below.refl _ _).alloc (Nat.le_refl _) _⟩
  · have hx := hide (some_text (b := b) hs)
    have e1 := empty_no hs
    have e2 := empty_no' hs
    go_enter Try.func35, Try.ntmps35
    go_wp2
    go_ret
    exact ⟨ret_bool (by rw [hx.out]; try rfl), (Below.refl _ _).alloc (Nat.le_refl _) _⟩

set_option maxHeartbeats 1000000 in
theorem strong_any (s : ByteArray) (b : Bool) (w : World) (hs : s.size ≤ 9223372036854775807) : Calls Try.prog 30 #[.agg #[.string s, .bool b]] w (BoolOk (strictB (s, b)) w) := by
  go_enter Try.func30, Try.ntmps30
  go_wp2_with fail
  obtain ⟨w1, hw1⟩ : ∃ w1 : World, w1 = (w).alloc (.cells #[.string s, .bool b] 25) := ⟨_, rfl⟩
  rw [← hw1]
  have hB1 : Below w.heap.size w w1 := by rw [hw1]; exact ((Below.refl _ _).alloc (Nat.le_refl _) _)
  have T : Blk w1 (w.heap.size) 25 #[.string s, .bool b] := by rw [hw1]; exact (Blk.new _ _ _)
  clear hw1
  have cT := T.cell
  refine (there_any _ _ _).mono ?_
  rintro e w2 ⟨rfl, hb2⟩
  have hB2 := hB1.trans (hb2.mono hB1.size)
  replace T := T.below hb2 T.lt
  clear cT hb2
  have cT := T.cell
  cases h1 : someTag (s, b)
  · have hx := hide (show strictB (s, b) = true by unfold strictB; rw [h1]; rfl)
    go_wp2_with fail
    go_ret
    exact ⟨ret_bool hx.out.symm, hB2⟩
  · go_wp2_with fail
    refine (tag_right _ _ _ hs).mono ?_
    rintro e w3 ⟨rfl, hb3⟩
    have hB3 := hB2.trans (hb3.mono hB2.size)
    replace T := T.below hb3 T.lt
    clear cT hb3
    have cT := T.cell
    cases h2 : tagOk s
    · have hx := hide (show strictB (s, b) = false by unfold strictB; rw [h1, h2]; rfl)
      go_wp2_with fail
      go_ret
      exact ⟨ret_bool hx.out.symm, hB3⟩
    · have hx := hide (show strictB (s, b) = !b by unfold strictB; rw [h1, h2]; rfl)
      go_wp2_with fail
      go_ret
      exact ⟨ret_bool hx.out.symm, hB3⟩

set_option maxHeartbeats 1000000 in
theorem rstrict_any (s : ByteArray) (b : Bool) (w : World) (hs : s.size ≤ 9223372036854775807) : Calls Try.prog 34 #[.agg #[.string s, .bool b]] w (BoolOk (strictB (s, b)) w) := by
  go_enter Try.func34, Try.ntmps34
  go_wp2_with fail
  obtain ⟨w1, hw1⟩ : ∃ w1 : World, w1 = (w).alloc (.cells #[.string s, .bool b] 25) := ⟨_, rfl⟩
  rw [← hw1]
  have hB1 : Below w.heap.size w w1 := by rw [hw1]; exact ((Below.refl _ _).alloc (Nat.le_refl _) _)
  have T : Blk w1 (w.heap.size) 25 #[.string s, .bool b] := by rw [hw1]; exact (Blk.new _ _ _)
  clear hw1
  have cT := T.cell
  refine (rthere_any _ _ _).mono ?_
  rintro e w2 ⟨rfl, hb2⟩
  have hB2 := hB1.trans (hb2.mono hB1.size)
  replace T := T.below hb2 T.lt
  clear cT hb2
  have cT := T.cell
  cases h1 : someTag (s, b)
  · have hx := hide (show strictB (s, b) = true by unfold strictB; rw [h1]; rfl)
    go_wp2_with fail
    go_ret
    exact ⟨ret_bool hx.out.symm, hB2⟩
  · go_wp2_with fail
    refine (rtag_right _ _ _ hs).mono ?_
    rintro e w3 ⟨rfl, hb3⟩
    have hB3 := hB2.trans (hb3.mono hB2.size)
    replace T := T.below hb3 T.lt
    clear cT hb3
    have cT := T.cell
    cases h2 : tagOk s
    · have hx := hide (show strictB (s, b) = false by unfold strictB; rw [h1, h2]; rfl)
      go_wp2_with fail
      go_ret
      exact ⟨ret_bool hx.out.symm, hB3⟩
    · have hx := hide (show strictB (s, b) = !b by unfold strictB; rw [h1, h2]; rfl)
      go_wp2_with fail
      go_ret
      exact ⟨ret_bool hx.out.symm, hB3⟩

set_option maxHeartbeats 4000000 in
theorem fright_any (ob : ByteArray) (fa fb : Int) (ft : ByteArray) (fk : Bool) (nt : ByteArray) (nk : Bool) (w : World) (hob : ob.size ≤ 9223372036854775807) (hft : ft.size ≤ 9223372036854775807) (hnt : nt.size ≤ 9223372036854775807) : Calls Try.prog 12 #[.agg #[.string ob, .int .i64 fa, .int .i64 fb, .string ft, .bool fk, .string nt, .bool nk]] w (BoolOk (fRight ob fa fb (ft, fk) (nt, nk)) w) := by
  go_enter Try.func12, Try.ntmps12
  go_wp2_with fail
  obtain ⟨w1, hw1⟩ : ∃ w1 : World, w1 = (w).alloc (.cells #[.string ob, .int .i64 fa, .int .i64 fb, .string ft, .bool fk, .string nt, .bool nk] 27) := ⟨_, rfl⟩
  rw [← hw1]
  have hB1 : Below w.heap.size w w1 := by rw [hw1]; exact ((Below.refl _ _).alloc (Nat.le_refl _) _)
  have T : Blk w1 (w.heap.size) 27 #[.string ob, .int .i64 fa, .int .i64 fb, .string ft, .bool fk, .string nt, .bool nk] := by rw [hw1]; exact (Blk.new _ _ _)
  clear hw1
  have cT := T.cell
  refine (object_any _ _ hob).mono ?_
  rintro e w' ⟨rfl, rfl⟩
  cases h1 : objOk ob
  · have hx := hide (show fRight ob fa fb (ft, fk) (nt, nk) = false by unfold fRight; rw [h1]; rfl)
    go_wp2_with fail
    go_ret
    exact ⟨ret_bool hx.out.symm, hB1⟩
  · go_wp2_with fail
    refine (span_right _ _ _).mono ?_
    rintro e w2 ⟨rfl, hb2⟩
    have hB2 := hB1.trans (hb2.mono hB1.size)
    replace T := T.below hb2 T.lt
    clear cT hb2
    have cT := T.cell
    cases h2 : spanOk fa fb
    · have hx := hide (show fRight ob fa fb (ft, fk) (nt, nk) = false by unfold fRight; rw [h2]; simp)
      go_wp2_with fail
      go_ret
      exact ⟨ret_bool hx.out.symm, hB2⟩
    · have hle : fa ≤ fb := by unfold spanOk at h2; simp at h2; omega
      by_cases nlt : fa < fb
      · have dlt : decide (fa < fb) = true := by simpa using nlt
        have q1 : (fa == fb) = false := by simp; omega
        go_wp2_with fail
        refine (strong_any _ _ _ hft).mono ?_
        rintro e w3 ⟨rfl, hb3⟩
        have hB3 := hB2.trans (hb3.mono hB2.size)
        replace T := T.below hb3 T.lt
        clear cT hb3
        have cT := T.cell
        cases h3 : strictB (ft, fk)
        · have hx := hide (show fRight ob fa fb (ft, fk) (nt, nk) = false by unfold fRight; rw [h3]; simp)
          go_wp2_with fail
          go_ret
          exact ⟨ret_bool hx.out.symm, hB3⟩
        · go_wp2_with fail
          refine (strong_any _ _ _ hnt).mono ?_
          rintro e w4 ⟨rfl, hb4⟩
          have hB4 := hB3.trans (hb4.mono hB3.size)
          replace T := T.below hb4 T.lt
          clear cT hb4
          have cT := T.cell
          cases h4 : strictB (nt, nk)
          · have hx := hide (show fRight ob fa fb (ft, fk) (nt, nk) = false by unfold fRight; rw [h4]; simp)
            go_wp2_with fail
            go_ret
            exact ⟨ret_bool hx.out.symm, hB4⟩
          · go_wp2_with fail
            refine (there_any _ _ _).mono ?_
            rintro e w5 ⟨rfl, hb5⟩
            have hB5 := hB4.trans (hb5.mono hB4.size)
            replace T := T.below hb5 T.lt
            clear cT hb5
            have cT := T.cell
            cases h5 : someTag (ft, fk)
            · have hx := hide (show fRight ob fa fb (ft, fk) (nt, nk) = true by unfold fRight; rw [h1, h2, h3, h4, h5]; simp [nlt])
              go_wp2_with fail
              go_ret
              exact ⟨ret_bool hx.out.symm, hB5⟩
            · go_wp2_with fail
              refine (there_any _ _ _).mono ?_
              rintro e w6 ⟨rfl, hb6⟩
              have hB6 := hB5.trans (hb6.mono hB5.size)
              replace T := T.below hb6 T.lt
              clear cT hb6
              have cT := T.cell
              cases h6 : someTag (nt, nk)
              · have hx := hide (show fRight ob fa fb (ft, fk) (nt, nk) = true by unfold fRight; rw [h1, h2, h3, h4, h6]; simp [nlt])
                go_wp2_with fail
                go_ret
                exact ⟨ret_bool hx.out.symm, hB6⟩
              · have hx := hide (show fRight ob fa fb (ft, fk) (nt, nk) = false by unfold fRight; rw [h5, h6]; simp)
                go_wp2_with fail
                go_ret
                exact ⟨ret_bool hx.out.symm, hB6⟩
      · have dlt : decide (fa < fb) = false := by simpa using nlt
        have q1 : (fa == fb) = true := by simp; omega
        have hx := hide (show fRight ob fa fb (ft, fk) (nt, nk) = false by unfold fRight; simp [nlt])
        go_wp2_with fail
        go_ret
        exact ⟨ret_bool hx.out.symm, hB2⟩

set_option maxHeartbeats 4000000 in
theorem rfright_any (ob : ByteArray) (fa fb : Int) (ft : ByteArray) (fk : Bool) (nt : ByteArray) (nk : Bool) (w : World) (hob : ob.size ≤ 9223372036854775807) (hft : ft.size ≤ 9223372036854775807) (hnt : nt.size ≤ 9223372036854775807) : Calls Try.prog 13 #[.agg #[.string ob, .int .i64 fa, .int .i64 fb, .string ft, .bool fk, .string nt, .bool nk]] w (BoolOk (fRight ob fa fb (ft, fk) (nt, nk)) w) := by
  go_enter Try.func13, Try.ntmps13
  go_wp2_with fail
  obtain ⟨w1, hw1⟩ : ∃ w1 : World, w1 = (w).alloc (.cells #[.string ob, .int .i64 fa, .int .i64 fb, .string ft, .bool fk, .string nt, .bool nk] 27) := ⟨_, rfl⟩
  rw [← hw1]
  have hB1 : Below w.heap.size w w1 := by rw [hw1]; exact ((Below.refl _ _).alloc (Nat.le_refl _) _)
  have T : Blk w1 (w.heap.size) 27 #[.string ob, .int .i64 fa, .int .i64 fb, .string ft, .bool fk, .string nt, .bool nk] := by rw [hw1]; exact (Blk.new _ _ _)
  clear hw1
  have cT := T.cell
  refine (robject_any _ _ hob).mono ?_
  rintro e w' ⟨rfl, rfl⟩
  cases h1 : objOk ob
  · have hx := hide (show fRight ob fa fb (ft, fk) (nt, nk) = false by unfold fRight; rw [h1]; rfl)
    go_wp2_with fail
    go_ret
    exact ⟨ret_bool hx.out.symm, hB1⟩
  · go_wp2_with fail
    refine (rspan_right _ _ _).mono ?_
    rintro e w2 ⟨rfl, hb2⟩
    have hB2 := hB1.trans (hb2.mono hB1.size)
    replace T := T.below hb2 T.lt
    clear cT hb2
    have cT := T.cell
    cases h2 : spanOk fa fb
    · have hx := hide (show fRight ob fa fb (ft, fk) (nt, nk) = false by unfold fRight; rw [h2]; simp)
      go_wp2_with fail
      go_ret
      exact ⟨ret_bool hx.out.symm, hB2⟩
    · have hle : fa ≤ fb := by unfold spanOk at h2; simp at h2; omega
      by_cases nlt : fa < fb
      · have dlt : decide (fa < fb) = true := by simpa using nlt
        have q1 : (fa == fb) = false := by simp; omega
        go_wp2_with fail
        refine (rstrict_any _ _ _ hft).mono ?_
        rintro e w3 ⟨rfl, hb3⟩
        have hB3 := hB2.trans (hb3.mono hB2.size)
        replace T := T.below hb3 T.lt
        clear cT hb3
        have cT := T.cell
        cases h3 : strictB (ft, fk)
        · have hx := hide (show fRight ob fa fb (ft, fk) (nt, nk) = false by unfold fRight; rw [h3]; simp)
          go_wp2_with fail
          go_ret
          exact ⟨ret_bool hx.out.symm, hB3⟩
        · go_wp2_with fail
          refine (rstrict_any _ _ _ hnt).mono ?_
          rintro e w4 ⟨rfl, hb4⟩
          have hB4 := hB3.trans (hb4.mono hB3.size)
          replace T := T.below hb4 T.lt
          clear cT hb4
          have cT := T.cell
          cases h4 : strictB (nt, nk)
          · have hx := hide (show fRight ob fa fb (ft, fk) (nt, nk) = false by unfold fRight; rw [h4]; simp)
            go_wp2_with fail
            go_ret
            exact ⟨ret_bool hx.out.symm, hB4⟩
          · go_wp2_with fail
            refine (rthere_any _ _ _).mono ?_
            rintro e w5 ⟨rfl, hb5⟩
            have hB5 := hB4.trans (hb5.mono hB4.size)
            replace T := T.below hb5 T.lt
            clear cT hb5
            have cT := T.cell
            cases h5 : someTag (ft, fk)
            · have hx := hide (show fRight ob fa fb (ft, fk) (nt, nk) = true by unfold fRight; rw [h1, h2, h3, h4, h5]; simp [nlt])
              go_wp2_with fail
              go_ret
              exact ⟨ret_bool hx.out.symm, hB5⟩
            · go_wp2_with fail
              refine (rthere_any _ _ _).mono ?_
              rintro e w6 ⟨rfl, hb6⟩
              have hB6 := hB5.trans (hb6.mono hB5.size)
              replace T := T.below hb6 T.lt
              clear cT hb6
              have cT := T.cell
              cases h6 : someTag (nt, nk)
              · have hx := hide (show fRight ob fa fb (ft, fk) (nt, nk) = true by unfold fRight; rw [h1, h2, h3, h4, h6]; simp [nlt])
                go_wp2_with fail
                go_ret
                exact ⟨ret_bool hx.out.symm, hB6⟩
              · have hx := hide (show fRight ob fa fb (ft, fk) (nt, nk) = false by unfold fRight; rw [h5, h6]; simp)
                go_wp2_with fail
                go_ret
                exact ⟨ret_bool hx.out.symm, hB6⟩
      · have dlt : decide (fa < fb) = false := by simpa using nlt
        have q1 : (fa == fb) = true := by simp; omega
        have hx := hide (show fRight ob fa fb (ft, fk) (nt, nk) = false by unfold fRight; simp [nlt])
        go_wp2_with fail
        go_ret
        exact ⟨ret_bool hx.out.symm, hB2⟩

end Go.Proofs.Ytdbocpgkedgpcaa
