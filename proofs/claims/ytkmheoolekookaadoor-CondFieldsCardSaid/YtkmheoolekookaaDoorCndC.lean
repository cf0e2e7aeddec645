/-
  The conditions of fields: the program's walk.
-/
import Derived.Test.YtkmheoolekookaaDoorGrN
import Derived.Test.YtkmheoolekookaaDoorTagP
import Derived.Deep.DeepCutAuto
namespace Go.Proofs.YtkmheoolekookaaDoor
open Go.RowKit
set_option linter.unusedVariables false
set_option linter.unusedSimpArgs false

/-- Conditions. -/
structure CondM where
  ms : List TagL
  ns : List TagL
  am : Bool
  an : Bool
  si : Int
  un : Int
  rt : TagL
def CondM.zero : CondM := ⟨[], [], false, false, 0, 0, ([], false)⟩
def namM : Bs := [73, 102, 45, 77, 97, 116, 99, 104]
def namN : Bs := [73, 102, 45, 78, 111, 110, 101, 45, 77, 97, 116, 99, 104]
def namU : Bs := [73, 102, 45, 85, 110, 109, 111, 100, 105, 102, 105, 101, 100, 45, 83, 105, 110, 99, 101]
def namS : Bs := [73, 102, 45, 77, 111, 100, 105, 102, 105, 101, 100, 45, 83, 105, 110, 99, 101]
def namR : Bs := [73, 102, 45, 82, 97, 110, 103, 101]

/-- What fields say: conditions, and why there are none. -/
def CondIs (l : List FieldL) (c : CondM) (e : Nat) : Prop :=
  ((tagsV (ofV l namM)).e = 2 ∨ (tagsV (ofV l namN)).e = 2) ∧ e = 2 ∧ c = CondM.zero ∨
  (¬ ((tagsV (ofV l namM)).e = 2 ∨ (tagsV (ofV l namN)).e = 2)) ∧ ((tagsV (ofV l namM)).e ≠ 0 ∨ (tagsV (ofV l namN)).e ≠ 0) ∧ e = 4 ∧ c = CondM.zero ∨
  (tagsV (ofV l namM)).e = 0 ∧ (tagsV (ofV l namN)).e = 0 ∧ e = 0 ∧ ∃ (si un : Int), TickIs (ofV l namU) un ∧ TickIs (ofV l namS) si ∧
    c = ⟨(tagsV (ofV l namM)).l, (tagsV (ofV l namN)).l, (tagsV (ofV l namM)).any, (tagsV (ofV l namN)).any, si, un, rangeV (ofV l namR)⟩
theorem CondIs.uniq {l : List FieldL} {c d : CondM} {e g : Nat} (h : CondIs l c e) (k : CondIs l d g) : c = d ∧ e = g := by
  rcases h with ⟨a, rfl, rfl⟩ | ⟨a, b, rfl, rfl⟩ | ⟨a, b, rfl, si, un, hu, hs, rfl⟩ <;> rcases k with ⟨p, rfl, rfl⟩ | ⟨p, q, rfl, rfl⟩ | ⟨p, q, rfl, si', un', ku, ks, rfl⟩
  · exact ⟨rfl, rfl⟩
  · exact absurd a p
  · omega
  · exact absurd p a
  · exact ⟨rfl, rfl⟩
  · omega
  · omega
  · omega
  · rw [hu.uniq ku, hs.uniq ks]; exact ⟨rfl, rfl⟩
/-- Where conditions lie. -/
def CondAt (w : World) (v : Value) (c : CondM) : Prop := ∃ v1 v2 x, v = .agg #[v1, v2, .bool c.am, .bool c.an, .int .i64 c.si, .int .i64 c.un, .string x, .bool c.rt.2] ∧ x.data.toList = c.rt.1 ∧ RdL LT w w.heap.size v1 c.ms ∧ RdL LT w w.heap.size v2 c.ns
def CondGot (l : List FieldL) (w : World) (e : Ending) (w' : World) : Prop := ∃ v c n, e = .returned (.tuple #[v, .int .i64 ((n : Nat) : Int)]) ∧ CondIs l c n ∧ CondAt w' v c ∧ Below w.heap.size w w'
theorem CondAt.zero (w : World) : CondAt w (.agg #[.slice none 0 0, .slice none 0 0, .bool false, .bool false, .int .i64 0, .int .i64 0, .string ⟨#[]⟩, .bool false]) CondM.zero := ⟨_, _, ⟨#[]⟩, rfl, rfl, RdL.nil _ _ _ _ (by decide), RdL.nil _ _ _ _ (by decide)⟩
theorem CondIs.bad {l : List FieldL} {m n : ListR} (hm : m = tagsV (ofV l namM)) (hn : n = tagsV (ofV l namN)) (h : m.e = 2 ∨ n.e = 2) : CondIs l CondM.zero 2 := by subst hm hn; exact .inl ⟨h, rfl, rfl⟩
theorem CondIs.many {l : List FieldL} {m n : ListR} (hm : m = tagsV (ofV l namM)) (hn : n = tagsV (ofV l namN)) (h : ¬ (m.e = 2 ∨ n.e = 2)) (h2 : m.e ≠ 0 ∨ n.e ≠ 0) : CondIs l CondM.zero 4 := by subst hm hn; exact .inr (.inl ⟨h, h2, rfl, rfl⟩)
theorem CondIs.good {l : List FieldL} {m n : ListR} {si un : Int} {r : TagL} (hm : m = tagsV (ofV l namM)) (hn : n = tagsV (ofV l namN)) (h : m.e = 0) (h2 : n.e = 0) (hu : TickIs (ofV l namU) un) (hs : TickIs (ofV l namS) si) (hr : r = rangeV (ofV l namR)) : CondIs l ⟨m.l, n.l, m.any, n.any, si, un, r⟩ 0 := by subst hm hn hr; exact .inr (.inr ⟨h, h2, rfl, si, un, hu, hs, rfl⟩)
theorem range_none {vs : List Bs} (h : vs.head? = none) : ([], false) = rangeV vs := by unfold rangeV; rw [h]
theorem range_bad {vs : List Bs} {x : Bs} (h : vs.head? = some x) (hp : parseB x = none) : ([], true) = rangeV vs := by unfold rangeV; rw [h]; simp [hp]
theorem range_good {vs : List Bs} {x : Bs} {t : TagL} (h : vs.head? = some x) (hp : parseB x = some t) : t = rangeV vs := by unfold rangeV; rw [h]; simp [hp]

theorem own_setc {α : Type} {L : Lay α} {B k i : Nat} {w : World} {v : Value} {l : List α} (h : OwnL L B w v l) (hk : k < B) (u : Value) : OwnL L B (w.setCell ⟨k, i, none⟩ u) v l :=
  h.far (fun e => by have := (h.lt k e).1; omega) u

set_option maxRecDepth 100000 in
set_option maxHeartbeats 16000000 in
theorem cparse8_any (v : Value) (l : List FieldL) (w : World) (hr : RdL LF w w.heap.size v l) (hz : ∀ f ∈ l, f.1.length ≤ 1000000) (hll : l.length ≤ 1000) (hsum : sumF l ≤ 900000) : Calls Tryd.prog 8 #[v] w (CondGot l w) := by
  have HR0 := hide hr
  clear hr
  go_enter Tryd.func8, Tryd.ntmps8
  go_upto_region 1 with fail
  obtain ⟨w1, hw1⟩ : ∃ w1 : World, w1 = (w).alloc (.cells #[.slice none 0 0, .slice none 0 0, .bool false, .bool false, .int .i64 0, .int .i64 0, .string ⟨#[]⟩, .bool false] 29) := ⟨_, rfl⟩
  rw [← hw1]
  have hB1 : Below w.heap.size w w1 := by rw [hw1]; exact ((Below.refl _ _).alloc (Nat.le_refl _) _)
  have Z : Blk w1 (w.heap.size) 29 #[.slice none 0 0, .slice none 0 0, .bool false, .bool false, .int .i64 0, .int .i64 0, .string ⟨#[]⟩, .bool false] := by rw [hw1]; exact (Blk.new _ _ _)
  have HR1 := hide ((HR0.out.below hB1).mono hB1.size)
  clear hw1
  have cZ := Z.cell
  have hZ1 := Z.lt
  go_wp2_with fail
  refine (ctags_any v l ⟨#[73, 102, 45, 77, 97, 116, 99, 104]⟩ _ HR1.out hz (by decide) hll hsum).mono ?_
  rintro e w2 ⟨vM, rfl, OM, hb2⟩
  have hB2 := hB1.trans (hb2.mono hB1.size)
  replace Z := Z.below hb2 Z.lt
  replace HR1 := hide ((HR1.out.below hb2).mono hb2.size)
  clear cZ hb2
  have cZ := Z.cell
  replace OM := OM.mono (show w.heap.size + 1 ≤ w1.heap.size by have := hZ1; omega)
  obtain ⟨M, hM⟩ : ∃ M, M = tagsV (ofV l namM) := ⟨_, rfl⟩
  have hEM := tagsV_e (ofV l namM)
  have hcM : tagsV (ofV l (⟨#[73, 102, 45, 77, 97, 116, 99, 104]⟩ : ByteArray).data.toList) = M := hM.symm
  rw [hcM] at OM ⊢
  rw [← hM] at hEM
  have HM := hide hM
  clear hM hcM
  obtain ⟨ma, me, ml⟩ := M
  dsimp only at OM hEM ⊢
  obtain ⟨AM, cM, hvM, hcM0, hcM1⟩ := OM.rd.form
  subst hvM
  rcases hEM.1 with h0 | h0 | h0
  · subst h0
    clear hEM
    have hZ2 := Z.lt
    go_wp2_with fail
    refine (ctags_any v l ⟨#[73, 102, 45, 78, 111, 110, 101, 45, 77, 97, 116, 99, 104]⟩ _ HR1.out hz (by decide) hll hsum).mono ?_
    rintro e w3 ⟨vN, rfl, ON, hb3⟩
    have hB3 := hB2.trans (hb3.mono hB2.size)
    replace Z := Z.below hb3 Z.lt
    replace HR1 := hide ((HR1.out.below hb3).mono hb3.size)
    have hb3x := hb3
    clear cZ hb3
    have cZ := Z.cell
    replace ON := ON.mono (show w.heap.size + 1 ≤ w2.heap.size by have := hB2.size; have := hZ2; omega)
    replace OM := OM.below hb3x (Nat.le_refl _)
    obtain ⟨N, hN⟩ : ∃ M, M = tagsV (ofV l namN) := ⟨_, rfl⟩
    have hEN := tagsV_e (ofV l namN)
    have hcN : tagsV (ofV l (⟨#[73, 102, 45, 78, 111, 110, 101, 45, 77, 97, 116, 99, 104]⟩ : ByteArray).data.toList) = N := hN.symm
    rw [hcN] at ON ⊢
    rw [← hN] at hEN
    have HN := hide hN
    clear hN hcN
    obtain ⟨na, ne, nl⟩ := N
    dsimp only at ON hEN ⊢
    obtain ⟨AN, cN, hvN, hcN0, hcN1⟩ := ON.rd.form
    subst hvN
    rcases hEN.1 with h0 | h0 | h0
    · subst h0
      clear hEN
      have hb0 : w.heap.size < w3.heap.size := by have := Z.lt; omega
      have OM3 := hide OM
      have ON3 := hide ON
      have Z3 := hide Z
      have HR3 := HR1
      clear OM ON Z cZ
      go_upto_region 10 with fail
      obtain ⟨w4, hw4⟩ : ∃ W : World, W = w3.alloc (.cells #[.slice AM ml.length cM, .slice AN nl.length cN, .bool ma, .bool na, .int .i64 0, .int .i64 0, .string ⟨#[]⟩, .bool false] 29) := ⟨_, rfl⟩
      first | rw [← hw4] | skip
      have C : Blk w4 w3.heap.size 29 #[.slice AM ml.length cM, .slice AN nl.length cN, .bool ma, .bool na, .int .i64 0, .int .i64 0, .string ⟨#[]⟩, .bool false] := by rw [hw4]; exact Blk.new _ _ _
      have hA4 : Below w3.heap.size w3 w4 := by rw [hw4]; exact (Below.refl _ _).alloc (Nat.le_refl _) _
      clear hw4
      have cC := C.cell
      have HR1 := hide ((HR3.out.below hA4).mono hA4.size)
      go_wp2_with fail
      refine (ctick_any v l ⟨#[73, 102, 45, 85, 110, 109, 111, 100, 105, 102, 105, 101, 100, 45, 83, 105, 110, 99, 101]⟩ _ HR1.out hz (by decide) hll hsum).mono ?_
      rintro e w5 ⟨tu, rfl, htu, hb5⟩
      have hA5 := hA4.trans (hb5.mono hA4.size)
      replace C := C.below hb5 C.lt
      have HTu := hide htu
      clear htu
      clear cC hb5
      have cC := C.cell
      have fC := C.frozen
      have HR1 := hide ((HR3.out.below hA5).mono hA5.size)
      go_upto_region 11 with fail
      obtain ⟨w6, hw6⟩ : ∃ W : World, W = (w5).setCell ⟨w3.heap.size, 5, none⟩ (.int .i64 tu) := ⟨_, rfl⟩
      rw [← hw6]
      have hA6 : Below w3.heap.size w3 w6 := by rw [hw6]; exact (below_set hA5 (Nat.le_refl _) _)
      have C' : Blk w6 w3.heap.size 29 #[.slice AM ml.length cM, .slice AN nl.length cN, .bool ma, .bool na, .int .i64 0, .int .i64 tu, .string ⟨#[]⟩, .bool false] := by rw [hw6]; simpa using (C.set_ 5 _)
      replace C := C'
      clear hw6 cC fC C'
      have cC := C.cell
      have fC := C.frozen
      have HR1 := hide ((HR3.out.below hA6).mono hA6.size)
      go_wp2_with fail
      refine (ctick_any v l ⟨#[73, 102, 45, 77, 111, 100, 105, 102, 105, 101, 100, 45, 83, 105, 110, 99, 101]⟩ _ HR1.out hz (by decide) hll hsum).mono ?_
      rintro e w7 ⟨ts, rfl, hts, hb7⟩
      have hA7 := hA6.trans (hb7.mono hA6.size)
      replace C := C.below hb7 C.lt
      have HTs := hide hts
      clear hts
      clear cC hb7
      have cC := C.cell
      have fC := C.frozen
      have HR1 := hide ((HR3.out.below hA7).mono hA7.size)
      go_upto_region 12 with fail
      obtain ⟨w8, hw8⟩ : ∃ W : World, W = (w7).setCell ⟨w3.heap.size, 4, none⟩ (.int .i64 ts) := ⟨_, rfl⟩
      rw [← hw8]
      have hA8 : Below w3.heap.size w3 w8 := by rw [hw8]; exact (below_set hA7 (Nat.le_refl _) _)
      have C' : Blk w8 w3.heap.size 29 #[.slice AM ml.length cM, .slice AN nl.length cN, .bool ma, .bool na, .int .i64 ts, .int .i64 tu, .string ⟨#[]⟩, .bool false] := by rw [hw8]; simpa using (C.set_ 4 _)
      replace C := C'
      clear hw8 cC fC C'
      have cC := C.cell
      have fC := C.frozen
      have HR1 := hide ((HR3.out.below hA8).mono hA8.size)
      go_wp2_with fail
      refine (fget_any v l ⟨#[73, 102, 45, 82, 97, 110, 103, 101]⟩ _ HR1.out hz (by decide) (by omega)).mono ?_
      rintro e w9 ⟨rfl, hb9⟩
      have hA9 := hA8.trans (hb9.mono hA8.size)
      replace C := C.below hb9 C.lt
      clear cC hb9
      have cC := C.cell
      have fC := C.frozen
      have HR1 := hide ((HR3.out.below hA9).mono hA9.size)
      cases hh : (ofV l (⟨#[73, 102, 45, 82, 97, 110, 103, 101]⟩ : ByteArray).data.toList).head? with
      | none =>
        have HH := hide hh
        clear hh
        simp only [Option.getD_none, Option.isSome_none]
        have Z := Z3.out.below hA9 Z3.out.lt
        have cZ := Z.cell
        have fZ := Z.frozen
        go_wp2_with fail
        refine bodyPost_ret (v := .tuple #[.agg #[.slice AM ml.length cM, .slice AN nl.length cN, .bool ma, .bool na, .int .i64 ts, .int .i64 tu, .string ⟨#[]⟩, .bool false], .int .i64 0]) (by simp [results, Tryd.results8, go_sem, cZ]) rfl ⟨_, ⟨ml, nl, ma, na, ts, tu, ([], false)⟩, 0, rfl, CondIs.good HM.out HN.out rfl rfl HTu.out HTs.out (range_none HH.out), ⟨_, _, _, rfl, rfl, ?_, ?_⟩, ?_⟩
        · refine OwnL.rd (B := w.heap.size + 1) ?_
          repeat (refine own_setc ?_ (Nat.lt_succ_self _) _)
          exact OM3.out.below hA9 (Nat.le_refl _)
        · refine OwnL.rd (B := w.heap.size + 1) ?_
          repeat (refine own_setc ?_ (Nat.lt_succ_self _) _)
          exact ON3.out.below hA9 (Nat.le_refl _)
        · repeat (refine below_set ?_ (Nat.le_refl _) _)
          exact hB3.trans (hA9.mono (Nat.le_of_lt hb0))
      | some x =>
        have HH := hide hh
        have hxl : x.length ≤ 900000 := by
          obtain ⟨f9, hf, rfl⟩ := ofV_mem (List.mem_of_mem_head? hh)
          have := sumF_mem hf
          omega
        clear hh
        simp only [Option.getD_some, Option.isSome_some]
        obtain ⟨s, hs⟩ : ∃ s : ByteArray, s = ⟨x.toArray⟩ := ⟨_, rfl⟩
        rw [← hs]
        have hsx : s.data.toList = x := by rw [hs]
        have hsz : s.size ≤ 9223372036854775807 := by rw [← lsize, hsx]; omega
        clear hs
        go_wp2_with fail
        refine (parse_any s _ hsz).mono ?_
        rintro e w10 ⟨rfl, hb10⟩
        have hA10 := hA9.trans (hb10.mono hA9.size)
        replace C := C.below hb10 C.lt
        clear cC hb10
        have cC := C.cell
        have fC := C.frozen
        have HR1 := hide ((HR3.out.below hA10).mono hA10.size)
        cases hp : parseB s.data.toList with
        | none =>
          have HP := hide (show parseB x = none by rw [← hsx]; exact hp)
          clear hp
          simp only [parseV]
          go_upto_region 15 with fail
          obtain ⟨w11, hw11⟩ : ∃ W : World, W = ((w10).setCell ⟨w3.heap.size, 6, none⟩ (.string ⟨#[]⟩)).setCell ⟨w3.heap.size, 7, none⟩ (.bool false) := ⟨_, rfl⟩
          rw [← hw11]
          have hA11 : Below w3.heap.size w3 w11 := by rw [hw11]; exact (below_set (below_set hA10 (Nat.le_refl _) _) (Nat.le_refl _) _)
          have C' : Blk w11 w3.heap.size 29 #[.slice AM ml.length cM, .slice AN nl.length cN, .bool ma, .bool na, .int .i64 ts, .int .i64 tu, .string ⟨#[]⟩, .bool false] := by rw [hw11]; simpa using ((C.set_ 6 _).set_ 7 _)
          replace C := C'
          clear hw11 cC fC C'
          have cC := C.cell
          have fC := C.frozen
          have HR1 := hide ((HR3.out.below hA11).mono hA11.size)
          go_upto_region 17 with fail
          obtain ⟨w12, hw12⟩ : ∃ W : World, W = ((w11).setCell ⟨w3.heap.size, 6, none⟩ (.string ⟨#[]⟩)).setCell ⟨w3.heap.size, 7, none⟩ (.bool true) := ⟨_, rfl⟩
          rw [← hw12]
          have hA12 : Below w3.heap.size w3 w12 := by rw [hw12]; exact (below_set (below_set hA11 (Nat.le_refl _) _) (Nat.le_refl _) _)
          have C' : Blk w12 w3.heap.size 29 #[.slice AM ml.length cM, .slice AN nl.length cN, .bool ma, .bool na, .int .i64 ts, .int .i64 tu, .string ⟨#[]⟩, .bool true] := by rw [hw12]; simpa using ((C.set_ 6 _).set_ 7 _)
          replace C := C'
          clear hw12 cC fC C'
          have cC := C.cell
          have fC := C.frozen
          have HR1 := hide ((HR3.out.below hA12).mono hA12.size)
          have Z := Z3.out.below hA12 Z3.out.lt
          have cZ := Z.cell
          have fZ := Z.frozen
          go_wp2_with fail
          refine bodyPost_ret (v := .tuple #[.agg #[.slice AM ml.length cM, .slice AN nl.length cN, .bool ma, .bool na, .int .i64 ts, .int .i64 tu, .string ⟨#[]⟩, .bool true], .int .i64 0]) (by simp [results, Tryd.results8, go_sem, cZ]) rfl ⟨_, ⟨ml, nl, ma, na, ts, tu, ([], true)⟩, 0, rfl, CondIs.good HM.out HN.out rfl rfl HTu.out HTs.out (range_bad HH.out HP.out), ⟨_, _, _, rfl, rfl, ?_, ?_⟩, ?_⟩
          · refine OwnL.rd (B := w.heap.size + 1) ?_
            repeat (refine own_setc ?_ (Nat.lt_succ_self _) _)
            exact OM3.out.below hA12 (Nat.le_refl _)
          · refine OwnL.rd (B := w.heap.size + 1) ?_
            repeat (refine own_setc ?_ (Nat.lt_succ_self _) _)
            exact ON3.out.below hA12 (Nat.le_refl _)
          · repeat (refine below_set ?_ (Nat.le_refl _) _)
            exact hB3.trans (hA12.mono (Nat.le_of_lt hb0))
        | some t =>
          have HP := hide (show parseB x = some t by rw [← hsx]; exact hp)
          clear hp
          simp only [parseV]
          obtain ⟨t1, t2⟩ := t
          go_upto_region 15 with fail
          obtain ⟨w11, hw11⟩ : ∃ W : World, W = ((w10).setCell ⟨w3.heap.size, 6, none⟩ (.string ⟨t1.toArray⟩)).setCell ⟨w3.heap.size, 7, none⟩ (.bool t2) := ⟨_, rfl⟩
          rw [← hw11]
          have hA11 : Below w3.heap.size w3 w11 := by rw [hw11]; exact (below_set (below_set hA10 (Nat.le_refl _) _) (Nat.le_refl _) _)
          have C' : Blk w11 w3.heap.size 29 #[.slice AM ml.length cM, .slice AN nl.length cN, .bool ma, .bool na, .int .i64 ts, .int .i64 tu, .string ⟨t1.toArray⟩, .bool t2] := by rw [hw11]; simpa using ((C.set_ 6 _).set_ 7 _)
          replace C := C'
          clear hw11 cC fC C'
          have cC := C.cell
          have fC := C.frozen
          have HR1 := hide ((HR3.out.below hA11).mono hA11.size)
          have Z := Z3.out.below hA11 Z3.out.lt
          have cZ := Z.cell
          have fZ := Z.frozen
          go_wp2_with fail
          refine bodyPost_ret (v := .tuple #[.agg #[.slice AM ml.length cM, .slice AN nl.length cN, .bool ma, .bool na, .int .i64 ts, .int .i64 tu, .string ⟨t1.toArray⟩, .bool t2], .int .i64 0]) (by simp [results, Tryd.results8, go_sem, cZ]) rfl ⟨_, ⟨ml, nl, ma, na, ts, tu, (t1, t2)⟩, 0, rfl, CondIs.good HM.out HN.out rfl rfl HTu.out HTs.out (range_good HH.out HP.out), ⟨_, _, _, rfl, rfl, ?_, ?_⟩, ?_⟩
          · refine OwnL.rd (B := w.heap.size + 1) ?_
            repeat (refine own_setc ?_ (Nat.lt_succ_self _) _)
            exact OM3.out.below hA11 (Nat.le_refl _)
          · refine OwnL.rd (B := w.heap.size + 1) ?_
            repeat (refine own_setc ?_ (Nat.lt_succ_self _) _)
            exact ON3.out.below hA11 (Nat.le_refl _)
          · repeat (refine below_set ?_ (Nat.le_refl _) _)
            exact hB3.trans (hA11.mono (Nat.le_of_lt hb0))
    · subst h0
      clear hEN
      have cZ := Z.cell
      have fZ := Z.frozen
      go_wp2_with fail
      refine bodyPost_ret (v := .tuple #[.agg #[.slice none 0 0, .slice none 0 0, .bool false, .bool false, .int .i64 0, .int .i64 0, .string ⟨#[]⟩, .bool false], .int .i64 2]) (by simp [results, Tryd.results8, go_sem, cZ]) rfl ⟨_, CondM.zero, 2, rfl, CondIs.bad HM.out HN.out (.inr rfl), CondAt.zero _, ?_⟩
      repeat (refine below_set ?_ (Nat.le_refl _) _)
      exact hB3
    · subst h0
      clear hEN
      have cZ := Z.cell
      have fZ := Z.frozen
      go_wp2_with fail
      refine bodyPost_ret (v := .tuple #[.agg #[.slice none 0 0, .slice none 0 0, .bool false, .bool false, .int .i64 0, .int .i64 0, .string ⟨#[]⟩, .bool false], .int .i64 4]) (by simp [results, Tryd.results8, go_sem, cZ]) rfl ⟨_, CondM.zero, 4, rfl, CondIs.many HM.out HN.out (by simp) (by simp), CondAt.zero _, ?_⟩
      repeat (refine below_set ?_ (Nat.le_refl _) _)
      exact hB3
  · subst h0
    clear hEM
    have hZ2 := Z.lt
    have cZ := Z.cell
    have fZ := Z.frozen
    go_wp2_with fail
    refine bodyPost_ret (v := .tuple #[.agg #[.slice none 0 0, .slice none 0 0, .bool false, .bool false, .int .i64 0, .int .i64 0, .string ⟨#[]⟩, .bool false], .int .i64 2]) (by simp [results, Tryd.results8, go_sem, cZ]) rfl ⟨_, CondM.zero, 2, rfl, CondIs.bad (n := tagsV (ofV l namN)) HM.out rfl (.inl rfl), CondAt.zero _, ?_⟩
    repeat (refine below_set ?_ (Nat.le_refl _) _)
    exact hB2
  · subst h0
    clear hEM
    have hZ2 := Z.lt
    go_wp2_with fail
    refine (ctags_any v l ⟨#[73, 102, 45, 78, 111, 110, 101, 45, 77, 97, 116, 99, 104]⟩ _ HR1.out hz (by decide) hll hsum).mono ?_
    rintro e w3 ⟨vN, rfl, ON, hb3⟩
    have hB3 := hB2.trans (hb3.mono hB2.size)
    replace Z := Z.below hb3 Z.lt
    replace HR1 := hide ((HR1.out.below hb3).mono hb3.size)
    have hb3x := hb3
    clear cZ hb3
    have cZ := Z.cell
    replace ON := ON.mono (show w.heap.size + 1 ≤ w2.heap.size by have := hB2.size; have := hZ2; omega)
    replace OM := OM.below hb3x (Nat.le_refl _)
    obtain ⟨N, hN⟩ : ∃ M, M = tagsV (ofV l namN) := ⟨_, rfl⟩
    have hEN := tagsV_e (ofV l namN)
    have hcN : tagsV (ofV l (⟨#[73, 102, 45, 78, 111, 110, 101, 45, 77, 97, 116, 99, 104]⟩ : ByteArray).data.toList) = N := hN.symm
    rw [hcN] at ON ⊢
    rw [← hN] at hEN
    have HN := hide hN
    clear hN hcN
    obtain ⟨na, ne, nl⟩ := N
    dsimp only at ON hEN ⊢
    obtain ⟨AN, cN, hvN, hcN0, hcN1⟩ := ON.rd.form
    subst hvN
    rcases hEN.1 with h0 | h0 | h0
    · subst h0
      clear hEN
      have cZ := Z.cell
      have fZ := Z.frozen
      go_wp2_with fail
      refine bodyPost_ret (v := .tuple #[.agg #[.slice none 0 0, .slice none 0 0, .bool false, .bool false, .int .i64 0, .int .i64 0, .string ⟨#[]⟩, .bool false], .int .i64 4]) (by simp [results, Tryd.results8, go_sem, cZ]) rfl ⟨_, CondM.zero, 4, rfl, CondIs.many HM.out HN.out (by simp) (by simp), CondAt.zero _, ?_⟩
      repeat (refine below_set ?_ (Nat.le_refl _) _)
      exact hB3
    · subst h0
      clear hEN
      have cZ := Z.cell
      have fZ := Z.frozen
      go_wp2_with fail
      refine bodyPost_ret (v := .tuple #[.agg #[.slice none 0 0, .slice none 0 0, .bool false, .bool false, .int .i64 0, .int .i64 0, .string ⟨#[]⟩, .bool false], .int .i64 2]) (by simp [results, Tryd.results8, go_sem, cZ]) rfl ⟨_, CondM.zero, 2, rfl, CondIs.bad HM.out HN.out (.inr rfl), CondAt.zero _, ?_⟩
      repeat (refine below_set ?_ (Nat.le_refl _) _)
      exact hB3
    · subst h0
      clear hEN
      have cZ := Z.cell
      have fZ := Z.frozen
      go_wp2_with fail
      refine bodyPost_ret (v := .tuple #[.agg #[.slice none 0 0, .slice none 0 0, .bool false, .bool false, .int .i64 0, .int .i64 0, .string ⟨#[]⟩, .bool false], .int .i64 4]) (by simp [results, Tryd.results8, go_sem, cZ]) rfl ⟨_, CondM.zero, 4, rfl, CondIs.many HM.out HN.out (by simp) (by simp), CondAt.zero _, ?_⟩
      repeat (refine below_set ?_ (Nat.le_refl _) _)
      exact hB3

end Go.Proofs.YtkmheoolekookaaDoor
