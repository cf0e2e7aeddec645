/-
  The conditions of fields: the reference's walk.
-/
import Derived.Test.YtkmheoolekookaaDoorCndC
import Derived.Test.YtkmheoolekookaaDoorTagR
namespace Go.Proofs.YtkmheoolekookaaDoor
open Go.RowKit
set_option linter.unusedVariables false
set_option linter.unusedSimpArgs false

set_option maxRecDepth 100000 in
set_option maxHeartbeats 16000000 in
theorem rparse8_any (v : Value) (l : List FieldL) (w : World) (hr : RdL LF w w.heap.size v l) (hz : ∀ f ∈ l, f.1.length ≤ 1000000) (hll : l.length ≤ 1000) (hsum : sumF l ≤ 900000) : Calls Tryd.prog 9 #[v] w (CondGot l w) := by
  have HR0 := hide hr
  clear hr
  go_enter Tryd.func9, Tryd.ntmps9
  go_upto_region 1 with fail
  obtain ⟨w1, hw1⟩ : ∃ w1 : World, w1 = (w).alloc (.cells #[.slice none 0 0, .slice none 0 0, .bool false, .bool false, .int .i64 0, .int .i64 0, .string ⟨#[]⟩, .bool false] 29) := ⟨_, rfl⟩
  rw [← hw1]
  have hB1 : Below w.heap.size w w1 := by rw [hw1]; exact ((Below.refl _ _).alloc (Nat.le_refl _) _)
  have Z : Blk w1 (w.heap.size) 29 #[.slice none 0 0, .slice none 0 0, .bool false, .bool false, .int .i64 0, .int .i64 0, .string ⟨#[]⟩, .bool false] := by rw [hw1]; exact (Blk.new _ _ _)
  have HR1 := hide ((HR0.out.below hB1).mono hB1.size)
  clear hw1
  have cZ := Z.cell
  have hZ1 := Z.lt
  go_wp2_with fail
  refine (rlist8_any v l ⟨#[73, 102, 45, 77, 97, 116, 99, 104]⟩ _ HR1.out hz (by decide) hll hsum).mono ?_
  rintro e w2 ⟨vM, rfl, OM, hb2⟩
  have hB2 := hB1.trans (hb2.mono hB1.size)
  replace Z := Z.below hb2 Z.lt
  replace HR1 := hide ((HR1.out.below hb2).mono hb2.size)
  clear cZ hb2
  have cZ := Z.cell
  replace OM := OM.mono (show w.heap.size + 1 ≤ w1.heap.size by have := hZ1; omega)
  obtain ⟨M, hM⟩ : ∃ M, M = tagsV (ofV l namM) := ⟨_, rfl⟩
  have hEM := tagsV_e (ofV l namM)
  have hcM : tagsV (ofV l (⟨#[73, 102, 45, 77, 97, 116, 99, 104]⟩ : ByteArray).data.toList) = M := hM.symm
  rw [hcM] at OM ⊢
  rw [← hM] at hEM
  have HM := hide hM
  clear hM hcM
  obtain ⟨ma, me, ml⟩ := M
  dsimp only at OM hEM ⊢
  obtain ⟨AM, cM, hvM, hcM0, hcM1⟩ := OM.rd.form
  subst hvM
  have hZ2 := Z.lt
  go_wp2_with fail
  refine (rlist8_any v l ⟨#[73, 102, 45, 78, 111, 110, 101, 45, 77, 97, 116, 99, 104]⟩ _ HR1.out hz (by decide) hll hsum).mono ?_
  rintro e w3 ⟨vN, rfl, ON, hb3⟩
  have hB3 := hB2.trans (hb3.mono hB2.size)
  replace Z := Z.below hb3 Z.lt
  replace HR1 := hide ((HR1.out.below hb3).mono hb3.size)
  have hb3x := hb3
  clear cZ hb3
  have cZ := Z.cell
  replace ON := ON.mono (show w.heap.size + 1 ≤ w2.heap.size by have := hB2.size; have := hZ2; omega)
  replace OM := OM.below hb3x (Nat.le_refl _)
  obtain ⟨N, hN⟩ : ∃ M, M = tagsV (ofV l namN) := ⟨_, rfl⟩
  have hEN := tagsV_e (ofV l namN)
  have hcN : tagsV (ofV l (⟨#[73, 102, 45, 78, 111, 110, 101, 45, 77, 97, 116, 99, 104]⟩ : ByteArray).data.toList) = N := hN.symm
  rw [hcN] at ON ⊢
  rw [← hN] at hEN
  have HN := hide hN
  clear hN hcN
  obtain ⟨na, ne, nl⟩ := N
  dsimp only at ON hEN ⊢
  obtain ⟨AN, cN, hvN, hcN0, hcN1⟩ := ON.rd.form
  subst hvN
  rcases hEM.1 with h0 | h0 | h0
  · subst h0
    clear hEM
    rcases hEN.1 with h0 | h0 | h0
    · subst h0
      clear hEN
      have hb0 : w.heap.size < w3.heap.size := by have := Z.lt; omega
      have OM3 := hide OM
      have ON3 := hide ON
      have Z3 := hide Z
      have HR3 := HR1
      clear OM ON Z cZ
      go_upto_region 8 with fail
      obtain ⟨w4, hw4⟩ : ∃ W : World, W = w3.alloc (.cells #[.slice AM ml.length cM, .slice AN nl.length cN, .bool ma, .bool na, .int .i64 0, .int .i64 0, .string ⟨#[]⟩, .bool false] 29) := ⟨_, rfl⟩
      first | rw [← hw4] | skip
      have C : Blk w4 w3.heap.size 29 #[.slice AM ml.length cM, .slice AN nl.length cN, .bool ma, .bool na, .int .i64 0, .int .i64 0, .string ⟨#[]⟩, .bool false] := by rw [hw4]; exact Blk.new _ _ _
      have hA4 : Below w3.heap.size w3 w4 := by rw [hw4]; exact (Below.refl _ _).alloc (Nat.le_refl _) _
      clear hw4
      have cC := C.cell
      have HR1 := hide ((HR3.out.below hA4).mono hA4.size)
      go_wp2_with fail
      refine (rdate_any v l ⟨#[73, 102, 45, 85, 110, 109, 111, 100, 105, 102, 105, 101, 100, 45, 83, 105, 110, 99, 101]⟩ _ HR1.out hz (by decide) hll hsum).mono ?_
      rintro e w5 ⟨tu, rfl, htu, hb5⟩
      have hA5 := hA4.trans (hb5.mono hA4.size)
      replace C := C.below hb5 C.lt
      have HTu := hide htu
      clear htu
      clear cC hb5
      have cC := C.cell
      have fC := C.frozen
      have HR1 := hide ((HR3.out.below hA5).mono hA5.size)
      go_wp2_with fail
      refine (rdate_any v l ⟨#[73, 102, 45, 77, 111, 100, 105, 102, 105, 101, 100, 45, 83, 105, 110, 99, 101]⟩ _ HR1.out hz (by decide) hll hsum).mono ?_
      rintro e w6 ⟨ts, rfl, hts, hb6⟩
      have hA6 := hA5.trans (hb6.mono hA5.size)
      replace C := C.below hb6 C.lt
      have HTs := hide hts
      clear hts
      clear cC hb6
      have cC := C.cell
      have fC := C.frozen
      have HR1 := hide ((HR3.out.below hA6).mono hA6.size)
      go_upto_region 9 with fail
      obtain ⟨w7, hw7⟩ : ∃ W : World, W = (w6.setCell ⟨w3.heap.size, 5, none⟩ (.int .i64 tu)).setCell ⟨w3.heap.size, 4, none⟩ (.int .i64 ts) := ⟨_, rfl⟩
      rw [← hw7]
      have hA7 : Below w3.heap.size w3 w7 := by rw [hw7]; exact below_set (below_set hA6 (Nat.le_refl _) _) (Nat.le_refl _) _
      have C' : Blk w7 w3.heap.size 29 #[.slice AM ml.length cM, .slice AN nl.length cN, .bool ma, .bool na, .int .i64 ts, .int .i64 tu, .string ⟨#[]⟩, .bool false] := by rw [hw7]; simpa using (C.set_ 5 _).set_ 4 _
      replace C := C'
      clear hw7 cC fC C'
      have cC := C.cell
      have fC := C.frozen
      have HR1 := hide ((HR3.out.below hA7).mono hA7.size)
      go_wp2_with fail
      refine (rof7_any v l ⟨#[73, 102, 45, 82, 97, 110, 103, 101]⟩ _ HR1.out hz (by decide) (by omega)).mono ?_
      rintro e w8 ⟨v11, rfl, O11, hb8⟩
      have hA8 := hA7.trans (hb8.mono hA7.size)
      replace C := C.below hb8 C.lt
      clear cC hb8
      have cC := C.cell
      have fC := C.frozen
      have HR1 := hide ((HR3.out.below hA8).mono hA8.size)
      obtain ⟨vs, hvs⟩ : ∃ vs, vs = ofV l (⟨#[73, 102, 45, 82, 97, 110, 103, 101]⟩ : ByteArray).data.toList := ⟨_, rfl⟩
      have HM9 := hide (fun x (hx : x ∈ ofV l (⟨#[73, 102, 45, 82, 97, 110, 103, 101]⟩ : ByteArray).data.toList) => (show x.length ≤ 900000 by obtain ⟨f9, hf, rfl⟩ := ofV_mem hx; have := sumF_mem hf; omega))
      rw [← hvs] at O11 HM9
      have HVS := hide hvs
      clear hvs
      obtain ⟨A11, c11, hv11, hc110, hc111⟩ := O11.rd.form
      subst hv11
      by_cases hvn : vs = []
      · have d0 : ¬ 0 < vs.length := by rw [hvn]; simp
        have HH := hide (show (ofV l (⟨#[73, 102, 45, 82, 97, 110, 103, 101]⟩ : ByteArray).data.toList).head? = none by rw [← HVS.out, hvn]; rfl)
        clear hvn
        have Z := Z3.out.below hA8 Z3.out.lt
        have cZ := Z.cell
        have fZ := Z.frozen
        go_wp2_with fail
        refine bodyPost_ret (v := .tuple #[.agg #[.slice AM ml.length cM, .slice AN nl.length cN, .bool ma, .bool na, .int .i64 ts, .int .i64 tu, .string ⟨#[]⟩, .bool false], .int .i64 0]) (by simp [results, Tryd.results9, go_sem, cZ]) rfl ⟨_, ⟨ml, nl, ma, na, ts, tu, ([], false)⟩, 0, rfl, CondIs.good HM.out HN.out rfl rfl HTu.out HTs.out (range_none HH.out), ⟨_, _, _, rfl, rfl, ?_, ?_⟩, ?_⟩
        · refine OwnL.rd (B := w.heap.size + 1) ?_
          repeat (refine own_setc ?_ (Nat.lt_succ_self _) _)
          exact OM3.out.below hA8 (Nat.le_refl _)
        · refine OwnL.rd (B := w.heap.size + 1) ?_
          repeat (refine own_setc ?_ (Nat.lt_succ_self _) _)
          exact ON3.out.below hA8 (Nat.le_refl _)
        · repeat (refine below_set ?_ (Nat.le_refl _) _)
          exact hB3.trans (hA8.mono (Nat.le_of_lt hb0))
      · have hlt : 0 < vs.length := List.length_pos_iff.2 hvn
        obtain ⟨b0, off, hA, hbl, c0⟩ := O11.rd.text 0 hlt
        subst hA
        obtain ⟨s, hs⟩ : ∃ s : ByteArray, s = ⟨vs[0].toArray⟩ := ⟨_, rfl⟩
        rw [← hs] at c0
        have c0' : w8.cell? ⟨b0, off, none⟩ = some (.string s) := c0
        clear c0
        have hsz : s.size ≤ 9223372036854775807 := by have := HM9.out vs[0] (List.getElem_mem hlt); rw [← lsize, hs]; show vs[0].length ≤ _; omega
        have hsx : s.data.toList = vs[0] := by rw [hs]
        have HH := hide (show (ofV l (⟨#[73, 102, 45, 82, 97, 110, 103, 101]⟩ : ByteArray).data.toList).head? = some s.data.toList by rw [← HVS.out, hsx, List.head?_eq_getElem?, List.getElem?_eq_getElem hlt])
        have g0 : (0 : Int) < (vs.length : Int) := by omega
        clear hs hvn
        go_wp2_with fail
        refine (rparse_any s _ hsz).mono ?_
        rintro e w9 ⟨rfl, hb9⟩
        have hA9 := hA8.trans (hb9.mono hA8.size)
        replace C := C.below hb9 C.lt
        clear cC hb9
        have cC := C.cell
        have fC := C.frozen
        have HR1 := hide ((HR3.out.below hA9).mono hA9.size)
        clear c0'
        cases hp : parseB s.data.toList with
        | none =>
          have HP := hide hp
          clear hp
          simp only [parseV]
          go_upto_region 12 with fail
          obtain ⟨w10, hw10⟩ : ∃ W : World, W = w9.alloc (.cells #[.string ⟨#[]⟩, .bool false] 27) := ⟨_, rfl⟩
          first | rw [← hw10] | skip
          have hlt9 : w3.heap.size < w9.heap.size := C.lt
          have T : Blk w10 w9.heap.size 27 #[.string ⟨#[]⟩, .bool false] := by rw [hw10]; exact Blk.new _ _ _
          have hA10 : Below w3.heap.size w3 w10 := by rw [hw10]; exact hA9.alloc hA9.size _
          have C' := C.alloc (.cells #[.string ⟨#[]⟩, .bool false] 27)
          rw [← hw10] at C'
          replace C := C'
          clear hw10 cC fC C'
          have cC := C.cell
          have fC := C.frozen
          have cT := T.cell
          have fT := T.frozen
          go_upto_region 14 with fail
          obtain ⟨w11, hw11⟩ : ∃ W : World, W = (w10.setCell ⟨w9.heap.size, 0, none⟩ (.string ⟨#[]⟩)).setCell ⟨w9.heap.size, 1, none⟩ (.bool true) := ⟨_, rfl⟩
          rw [← hw11]
          have hA11 : Below w3.heap.size w3 w11 := by rw [hw11]; exact below_set (below_set hA10 hA9.size _) hA9.size _
          have C' : Blk w11 w3.heap.size 29 #[.slice AM ml.length cM, .slice AN nl.length cN, .bool ma, .bool na, .int .i64 ts, .int .i64 tu, .string ⟨#[]⟩, .bool false] := by rw [hw11]; exact (C.far (by show w3.heap.size ≠ w9.heap.size; omega) _).far (by show w3.heap.size ≠ w9.heap.size; omega) _
          replace C := C'
          have T' : Blk w11 w9.heap.size 27 #[.string ⟨#[]⟩, .bool true] := by rw [hw11]; simpa using (T.set_ 0 (.string ⟨#[]⟩)).set_ 1 (.bool true)
          replace T := T'
          clear hw11 cC fC C' cT fT T'
          have cC := C.cell
          have fC := C.frozen
          have cT := T.cell
          go_upto_region 15 with fail
          obtain ⟨w12, hw12⟩ : ∃ W : World, W = ((w11).setCell ⟨w3.heap.size, 6, none⟩ (.string ⟨#[]⟩)).setCell ⟨w3.heap.size, 7, none⟩ (.bool true) := ⟨_, rfl⟩
          rw [← hw12]
          have hA12 : Below w3.heap.size w3 w12 := by rw [hw12]; exact (below_set (below_set hA11 (Nat.le_refl _) _) (Nat.le_refl _) _)
          have C' : Blk w12 w3.heap.size 29 #[.slice AM ml.length cM, .slice AN nl.length cN, .bool ma, .bool na, .int .i64 ts, .int .i64 tu, .string ⟨#[]⟩, .bool true] := by rw [hw12]; simpa using ((C.set_ 6 _).set_ 7 _)
          replace C := C'
          clear hw12 cC fC C'
          have cC := C.cell
          have fC := C.frozen
          have HR1 := hide ((HR3.out.below hA12).mono hA12.size)
          have Z := Z3.out.below hA12 Z3.out.lt
          have cZ := Z.cell
          have fZ := Z.frozen
          go_wp2_with fail
          refine bodyPost_ret (v := .tuple #[.agg #[.slice AM ml.length cM, .slice AN nl.length cN, .bool ma, .bool na, .int .i64 ts, .int .i64 tu, .string ⟨#[]⟩, .bool true], .int .i64 0]) (by simp [results, Tryd.results9, go_sem, cZ]) rfl ⟨_, ⟨ml, nl, ma, na, ts, tu, ([], true)⟩, 0, rfl, CondIs.good HM.out HN.out rfl rfl HTu.out HTs.out (range_bad HH.out HP.out), ⟨_, _, _, rfl, rfl, ?_, ?_⟩, ?_⟩
          · refine OwnL.rd (B := w.heap.size + 1) ?_
            repeat (refine own_setc ?_ (Nat.lt_succ_self _) _)
            exact OM3.out.below hA12 (Nat.le_refl _)
          · refine OwnL.rd (B := w.heap.size + 1) ?_
            repeat (refine own_setc ?_ (Nat.lt_succ_self _) _)
            exact ON3.out.below hA12 (Nat.le_refl _)
          · repeat (refine below_set ?_ (Nat.le_refl _) _)
            exact hB3.trans (hA12.mono (Nat.le_of_lt hb0))
        | some t =>
          have HP := hide hp
          clear hp
          simp only [parseV]
          obtain ⟨t1, t2⟩ := t
          go_upto_region 12 with fail
          obtain ⟨w10, hw10⟩ : ∃ W : World, W = w9.alloc (.cells #[.string ⟨t1.toArray⟩, .bool t2] 27) := ⟨_, rfl⟩
          first | rw [← hw10] | skip
          have hlt9 : w3.heap.size < w9.heap.size := C.lt
          have T : Blk w10 w9.heap.size 27 #[.string ⟨t1.toArray⟩, .bool t2] := by rw [hw10]; exact Blk.new _ _ _
          have hA10 : Below w3.heap.size w3 w10 := by rw [hw10]; exact hA9.alloc hA9.size _
          have C' := C.alloc (.cells #[.string ⟨t1.toArray⟩, .bool t2] 27)
          rw [← hw10] at C'
          replace C := C'
          clear hw10 cC fC C'
          have cC := C.cell
          have fC := C.frozen
          have cT := T.cell
          have fT := T.frozen
          go_upto_region 15 with fail
          obtain ⟨w11, hw11⟩ : ∃ W : World, W = ((w10).setCell ⟨w3.heap.size, 6, none⟩ (.string ⟨t1.toArray⟩)).setCell ⟨w3.heap.size, 7, none⟩ (.bool t2) := ⟨_, rfl⟩
          rw [← hw11]
          have hA11 : Below w3.heap.size w3 w11 := by rw [hw11]; exact (below_set (below_set hA10 (Nat.le_refl _) _) (Nat.le_refl _) _)
          have C' : Blk w11 w3.heap.size 29 #[.slice AM ml.length cM, .slice AN nl.length cN, .bool ma, .bool na, .int .i64 ts, .int .i64 tu, .string ⟨t1.toArray⟩, .bool t2] := by rw [hw11]; simpa using ((C.set_ 6 _).set_ 7 _)
          replace C := C'
          clear hw11 cC fC C'
          have cC := C.cell
          have fC := C.frozen
          have HR1 := hide ((HR3.out.below hA11).mono hA11.size)
          have Z := Z3.out.below hA11 Z3.out.lt
          have cZ := Z.cell
          have fZ := Z.frozen
          go_wp2_with fail
          refine bodyPost_ret (v := .tuple #[.agg #[.slice AM ml.length cM, .slice AN nl.length cN, .bool ma, .bool na, .int .i64 ts, .int .i64 tu, .string ⟨t1.toArray⟩, .bool t2], .int .i64 0]) (by simp [results, Tryd.results9, go_sem, cZ]) rfl ⟨_, ⟨ml, nl, ma, na, ts, tu, (t1, t2)⟩, 0, rfl, CondIs.good HM.out HN.out rfl rfl HTu.out HTs.out (range_good HH.out HP.out), ⟨_, _, _, rfl, rfl, ?_, ?_⟩, ?_⟩
          · refine OwnL.rd (B := w.heap.size + 1) ?_
            repeat (refine own_setc ?_ (Nat.lt_succ_self _) _)
            exact OM3.out.below hA11 (Nat.le_refl _)
          · refine OwnL.rd (B := w.heap.size + 1) ?_
            repeat (refine own_setc ?_ (Nat.lt_succ_self _) _)
            exact ON3.out.below hA11 (Nat.le_refl _)
          · repeat (refine below_set ?_ (Nat.le_refl _) _)
            exact hB3.trans (hA11.mono (Nat.le_of_lt hb0))
    · subst h0
      clear hEN
      have cZ := Z.cell
      have fZ := Z.frozen
      go_wp2_with fail
      refine bodyPost_ret (v := .tuple #[.agg #[.slice none 0 0, .slice none 0 0, .bool false, .bool false, .int .i64 0, .int .i64 0, .string ⟨#[]⟩, .bool false], .int .i64 2]) (by simp [results, Tryd.results9, go_sem, cZ]) rfl ⟨_, CondM.zero, 2, rfl, CondIs.bad HM.out HN.out (.inr rfl), CondAt.zero _, ?_⟩
      repeat (refine below_set ?_ (Nat.le_refl _) _)
      exact hB3
    · subst h0
      clear hEN
      have cZ := Z.cell
      have fZ := Z.frozen
      go_wp2_with fail
      refine bodyPost_ret (v := .tuple #[.agg #[.slice none 0 0, .slice none 0 0, .bool false, .bool false, .int .i64 0, .int .i64 0, .string ⟨#[]⟩, .bool false], .int .i64 4]) (by simp [results, Tryd.results9, go_sem, cZ]) rfl ⟨_, CondM.zero, 4, rfl, CondIs.many HM.out HN.out (by simp) (by simp), CondAt.zero _, ?_⟩
      repeat (refine below_set ?_ (Nat.le_refl _) _)
      exact hB3
  · subst h0
    clear hEM
    rcases hEN.1 with h0 | h0 | h0
    · subst h0
      clear hEN
      have cZ := Z.cell
      have fZ := Z.frozen
      go_wp2_with fail
      refine bodyPost_ret (v := .tuple #[.agg #[.slice none 0 0, .slice none 0 0, .bool false, .bool false, .int .i64 0, .int .i64 0, .string ⟨#[]⟩, .bool false], .int .i64 2]) (by simp [results, Tryd.results9, go_sem, cZ]) rfl ⟨_, CondM.zero, 2, rfl, CondIs.bad HM.out HN.out (.inl rfl), CondAt.zero _, ?_⟩
      repeat (refine below_set ?_ (Nat.le_refl _) _)
      exact hB3
    · subst h0
      clear hEN
      have cZ := Z.cell
      have fZ := Z.frozen
      go_wp2_with fail
      refine bodyPost_ret (v := .tuple #[.agg #[.slice none 0 0, .slice none 0 0, .bool false, .bool false, .int .i64 0, .int .i64 0, .string ⟨#[]⟩, .bool false], .int .i64 2]) (by simp [results, Tryd.results9, go_sem, cZ]) rfl ⟨_, CondM.zero, 2, rfl, CondIs.bad HM.out HN.out (.inl rfl), CondAt.zero _, ?_⟩
      repeat (refine below_set ?_ (Nat.le_refl _) _)
      exact hB3
    · subst h0
      clear hEN
      have cZ := Z.cell
      have fZ := Z.frozen
      go_wp2_with fail
      refine bodyPost_ret (v := .tuple #[.agg #[.slice none 0 0, .slice none 0 0, .bool false, .bool false, .int .i64 0, .int .i64 0, .string ⟨#[]⟩, .bool false], .int .i64 2]) (by simp [results, Tryd.results9, go_sem, cZ]) rfl ⟨_, CondM.zero, 2, rfl, CondIs.bad HM.out HN.out (.inl rfl), CondAt.zero _, ?_⟩
      repeat (refine below_set ?_ (Nat.le_refl _) _)
      exact hB3
  · subst h0
    clear hEM
    rcases hEN.1 with h0 | h0 | h0
    · subst h0
      clear hEN
      have cZ := Z.cell
      have fZ := Z.frozen
      go_wp2_with fail
      refine bodyPost_ret (v := .tuple #[.agg #[.slice none 0 0, .slice none 0 0, .bool false, .bool false, .int .i64 0, .int .i64 0, .string ⟨#[]⟩, .bool false], .int .i64 4]) (by simp [results, Tryd.results9, go_sem, cZ]) rfl ⟨_, CondM.zero, 4, rfl, CondIs.many HM.out HN.out (by simp) (by simp), CondAt.zero _, ?_⟩
      repeat (refine below_set ?_ (Nat.le_refl _) _)
      exact hB3
    · subst h0
      clear hEN
      have cZ := Z.cell
      have fZ := Z.frozen
      go_wp2_with fail
      refine bodyPost_ret (v := .tuple #[.agg #[.slice none 0 0, .slice none 0 0, .bool false, .bool false, .int .i64 0, .int .i64 0, .string ⟨#[]⟩, .bool false], .int .i64 2]) (by simp [results, Tryd.results9, go_sem, cZ]) rfl ⟨_, CondM.zero, 2, rfl, CondIs.bad HM.out HN.out (.inr rfl), CondAt.zero _, ?_⟩
      repeat (refine below_set ?_ (Nat.le_refl _) _)
      exact hB3
    · subst h0
      clear hEN
      have cZ := Z.cell
      have fZ := Z.frozen
      go_wp2_with fail
      refine bodyPost_ret (v := .tuple #[.agg #[.slice none 0 0, .slice none 0 0, .bool false, .bool false, .int .i64 0, .int .i64 0, .string ⟨#[]⟩, .bool false], .int .i64 4]) (by simp [results, Tryd.results9, go_sem, cZ]) rfl ⟨_, CondM.zero, 4, rfl, CondIs.many HM.out HN.out (by simp) (by simp), CondAt.zero _, ?_⟩
      repeat (refine below_set ?_ (Nat.le_refl _) _)
      exact hB3

end Go.Proofs.YtkmheoolekookaaDoor
