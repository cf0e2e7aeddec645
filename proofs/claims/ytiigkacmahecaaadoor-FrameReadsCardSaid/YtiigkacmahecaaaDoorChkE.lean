/-
  The reference's reader of a chunked body: a step.
-/
import Derived.Test.YtiigkacmahecaaaDoorChkD
namespace Go.Proofs.YtiigkacmahecaaaDoor
open Go.RowKit
set_option linter.unusedVariables false
set_option linter.unusedSimpArgs false

def stN (x : Rs) : Nat := if x.at_ < 6 then x.at_ else if x.at_ = 6 then (if x.long = 0 then 6 else 7) else x.at_ + 1
/-- The reference's reader stands where x does. -/
def RelC (x : Rs) (cs : Array Value) : Prop := ∃ l : Int, 0 ≤ l ∧ l ≤ 200 ∧ (x.at_ < 6 ∨ x.long ≠ 0 → l = (x.long : Int)) ∧ cs = #[.int .i64 (stN x : Int), .int .i64 (x.digits : Int), .int .i64 l, .int .i64 (x.trailers : Int), .int .i64 (x.size : Int)]
def RStep (r : Option (Rs × Bool)) (w : World) (e : Ending) (w' : World) : Prop := match r with
  | some (x, d) => ∃ cs, RelC x cs ∧ e = .returned (.tuple #[.agg cs, .bool d, .bool true]) ∧ Below w.heap.size w w'
  | none => ∃ (i0 i1 i2 i3 i4 : Int) (b : Bool), e = .returned (.tuple #[.agg #[.int .i64 i0, .int .i64 i1, .int .i64 i2, .int .i64 i3, .int .i64 i4], .bool b, .bool false]) ∧ Below w.heap.size w w'
theorem rpost_some {r : Option (Rs × Bool)} {x : Rs} {d : Bool} {w w' : World} {cs : Array Value} (h : Hid (r = some (x, d))) (hc : RelC x cs) (hb : Below w.heap.size w w') : RStep r w (.returned (.tuple #[.agg cs, .bool d, .bool true])) w' := by
  rw [h.out]; exact ⟨cs, hc, rfl, hb⟩
theorem rpost_none {r : Option (Rs × Bool)} {w w' : World} {i0 i1 i2 i3 i4 : Int} {b : Bool} (h : Hid (r = none)) (hb : Below w.heap.size w w') : RStep r w (.returned (.tuple #[.agg #[.int .i64 i0, .int .i64 i1, .int .i64 i2, .int .i64 i3, .int .i64 i4], .bool b, .bool false])) w' := by
  rw [h.out]; exact ⟨i0, i1, i2, i3, i4, b, rfl, hb⟩
theorem relC_mk {x : Rs} {l : Int} {cs : Array Value} (h0 : 0 ≤ l) (h1 : l ≤ 200) (h2 : x.at_ < 6 ∨ x.long ≠ 0 → l = (x.long : Int)) (h3 : cs = #[.int .i64 (stN x : Int), .int .i64 (x.digits : Int), .int .i64 l, .int .i64 (x.trailers : Int), .int .i64 (x.size : Int)]) : RelC x cs := ⟨l, h0, h1, h2, h3⟩

set_option maxRecDepth 100000 in
set_option maxHeartbeats 8000000 in
theorem rstep_3 (sz dg lg tr n : Nat)  (w : World) (I : Inv ⟨3, sz, dg, lg, tr⟩)  (hn : n ≤ 255) : Calls Tryd.prog 64 #[.agg #[.int .i64 3, .int .i64 (dg : Nat), .int .i64 (lg : Nat), .int .i64 (tr : Nat), .int .i64 (sz : Nat)], .int .u8 (n : Int)] w (RStep (stepM ⟨3, sz, dg, lg, tr⟩ n) w) := by
  have hz := I.data rfl
  have hb := I.big
  have hl := I.long
  simp only at hl
  simp only at hz hb
  by_cases hs : sz = 1
  · subst hs
    have hx := hide (show stepM ⟨3, 1, dg, lg, tr⟩ n = some (⟨4, 0, dg, lg, tr⟩, true) by simp [stepM])
    go_enter Tryd.func64, Tryd.ntmps64
    go_wp2_with fail
    exact bodyPost_ret (v := .tuple #[.agg #[.int .i64 4, .int .i64 (dg : Nat), .int .i64 (lg : Nat), .int .i64 (tr : Nat), .int .i64 0], .bool true, .bool true]) (by simp [results, Tryd.results64, go_sem]) rfl (rpost_some hx (relC_mk (l := (lg : Int)) (by omega) (by omega) (by simp <;> omega) (by simp [stN] <;> omega)) ((((Below.refl _ _).alloc (Nat.le_refl _) _).alloc (by simp) _)))
  · have hx := hide (show stepM ⟨3, sz, dg, lg, tr⟩ n = some (⟨3, sz - 1, dg, lg, tr⟩, true) by simp [stepM, hs])
    have zs : (((sz : Int) - 1) == 0) = false := beqF (by omega)
    go_enter Tryd.func64, Tryd.ntmps64
    go_wp2_with fail
    exact bodyPost_ret (v := .tuple #[.agg #[.int .i64 3, .int .i64 (dg : Nat), .int .i64 (lg : Nat), .int .i64 (tr : Nat), .int .i64 ((sz : Int) - 1)], .bool true, .bool true]) (by simp [results, Tryd.results64, go_sem]) rfl (rpost_some hx (relC_mk (l := (lg : Int)) (by omega) (by omega) (by simp <;> omega) (by simp [stN] <;> omega)) ((((Below.refl _ _).alloc (Nat.le_refl _) _).alloc (by simp) _)))

set_option maxRecDepth 100000 in
set_option maxHeartbeats 8000000 in
theorem rstep_4 (sz dg lg tr n : Nat)  (w : World) (I : Inv ⟨4, sz, dg, lg, tr⟩)  (hn : n ≤ 255) : Calls Tryd.prog 64 #[.agg #[.int .i64 4, .int .i64 (dg : Nat), .int .i64 (lg : Nat), .int .i64 (tr : Nat), .int .i64 (sz : Nat)], .int .u8 (n : Int)] w (RStep (stepM ⟨4, sz, dg, lg, tr⟩ n) w) := by
  have hl := I.long
  simp only at hl
  by_cases h13 : n = 13
  · subst h13
    have hx := hide (show stepM ⟨4, sz, dg, lg, tr⟩ 13 = some (⟨5, sz, dg, lg, tr⟩, false) by simp [stepM])
    go_enter Tryd.func64, Tryd.ntmps64
    go_wp2_with fail
    exact bodyPost_ret (v := .tuple #[.agg #[.int .i64 5, .int .i64 (dg : Nat), .int .i64 (lg : Nat), .int .i64 (tr : Nat), .int .i64 (sz : Nat)], .bool false, .bool true]) (by simp [results, Tryd.results64, go_sem]) rfl (rpost_some hx (relC_mk (l := (lg : Int)) (by omega) (by omega) (by simp <;> omega) (by simp [stN] <;> omega)) ((((Below.refl _ _).alloc (Nat.le_refl _) _).alloc (by simp) _)))
  · have hx := hide (show stepM ⟨4, sz, dg, lg, tr⟩ n = none by simp only [stepM]; rw [if_neg h13])
    have z13 : ((n : Int) == 13) = false := beqF (by omega)
    clear h13
    go_enter Tryd.func64, Tryd.ntmps64
    go_wp2_with fail
    exact bodyPost_ret (v := .tuple #[.agg #[.int .i64 5, .int .i64 (dg : Nat), .int .i64 (lg : Nat), .int .i64 (tr : Nat), .int .i64 (sz : Nat)], .bool false, .bool false]) (by simp [results, Tryd.results64, go_sem]) rfl (rpost_none hx ((((Below.refl _ _).alloc (Nat.le_refl _) _).alloc (by simp) _)))

set_option maxRecDepth 100000 in
set_option maxHeartbeats 8000000 in
theorem rstep_5 (sz dg lg tr n : Nat)  (w : World) (I : Inv ⟨5, sz, dg, lg, tr⟩)  (hn : n ≤ 255) : Calls Tryd.prog 64 #[.agg #[.int .i64 5, .int .i64 (dg : Nat), .int .i64 (lg : Nat), .int .i64 (tr : Nat), .int .i64 (sz : Nat)], .int .u8 (n : Int)] w (RStep (stepM ⟨5, sz, dg, lg, tr⟩ n) w) := by
  have ht := hide (I.none_ (by simp))
  by_cases h10 : n = 10
  · subst h10
    have hx := hide (show stepM ⟨5, sz, dg, lg, tr⟩ 10 = some (⟨0, 0, 0, 0, tr⟩, false) by simp [stepM])
    go_enter Tryd.func64, Tryd.ntmps64
    go_wp2_with fail
    exact bodyPost_ret (v := .tuple #[.agg #[.int .i64 0, .int .i64 0, .int .i64 0, .int .i64 0, .int .i64 0], .bool false, .bool true]) (by simp [results, Tryd.results64, go_sem]) rfl (rpost_some hx (relC_mk (l := 0) (by omega) (by omega) (by simp) (by rw [ht.out]; simp [stN])) ((((Below.refl _ _).alloc (Nat.le_refl _) _).alloc (by simp) _)))
  · have hx := hide (show stepM ⟨5, sz, dg, lg, tr⟩ n = none by simp only [stepM]; rw [if_neg h10])
    have z10 : ((n : Int) == 10) = false := beqF (by omega)
    clear h10
    go_enter Tryd.func64, Tryd.ntmps64
    go_wp2_with fail
    exact bodyPost_ret (v := .tuple #[.agg #[.int .i64 0, .int .i64 0, .int .i64 0, .int .i64 0, .int .i64 0], .bool false, .bool false]) (by simp [results, Tryd.results64, go_sem]) rfl (rpost_none hx ((((Below.refl _ _).alloc (Nat.le_refl _) _).alloc (by simp) _)))

set_option maxRecDepth 100000 in
set_option maxHeartbeats 8000000 in
theorem rstep_2 (sz dg lg tr n : Nat)  (w : World) (I : Inv ⟨2, sz, dg, lg, tr⟩)  (hn : n ≤ 255) : Calls Tryd.prog 64 #[.agg #[.int .i64 2, .int .i64 (dg : Nat), .int .i64 (lg : Nat), .int .i64 (tr : Nat), .int .i64 (sz : Nat)], .int .u8 (n : Int)] w (RStep (stepM ⟨2, sz, dg, lg, tr⟩ n) w) := by
  have hl := I.long
  simp only at hl
  by_cases h10 : n = 10
  · subst h10
    by_cases hz : sz = 0
    · subst hz
      have hx := hide (show stepM ⟨2, 0, dg, lg, tr⟩ 10 = some (⟨6, 0, dg, 0, tr⟩, false) by simp [stepM])
      go_enter Tryd.func64, Tryd.ntmps64
      go_wp2_with fail
      exact bodyPost_ret (v := .tuple #[.agg #[.int .i64 6, .int .i64 (dg : Nat), .int .i64 0, .int .i64 (tr : Nat), .int .i64 0], .bool false, .bool true]) (by simp [results, Tryd.results64, go_sem]) rfl (rpost_some hx (relC_mk (l := 0) (by omega) (by omega) (by simp <;> omega) (by simp [stN] <;> omega)) ((((Below.refl _ _).alloc (Nat.le_refl _) _).alloc (by simp) _)))
    · have hx := hide (show stepM ⟨2, sz, dg, lg, tr⟩ 10 = some (⟨3, sz, dg, 0, tr⟩, false) by simp [stepM, hz])
      have zs : ((sz : Int) == 0) = false := beqF (by omega)
      clear hz
      go_enter Tryd.func64, Tryd.ntmps64
      go_wp2_with fail
      exact bodyPost_ret (v := .tuple #[.agg #[.int .i64 3, .int .i64 (dg : Nat), .int .i64 0, .int .i64 (tr : Nat), .int .i64 (sz : Nat)], .bool false, .bool true]) (by simp [results, Tryd.results64, go_sem]) rfl (rpost_some hx (relC_mk (l := 0) (by omega) (by omega) (by simp <;> omega) (by simp [stN] <;> omega)) ((((Below.refl _ _).alloc (Nat.le_refl _) _).alloc (by simp) _)))
  · by_cases hz : sz = 0
    · subst hz
      have hx := hide (show stepM ⟨2, 0, dg, lg, tr⟩ n = none by simp only [stepM]; rw [if_neg h10])
      have z10 : ((n : Int) == 10) = false := beqF (by omega)
      clear h10
      go_enter Tryd.func64, Tryd.ntmps64
      go_wp2_with fail
      exact bodyPost_ret (v := .tuple #[.agg #[.int .i64 6, .int .i64 (dg : Nat), .int .i64 0, .int .i64 (tr : Nat), .int .i64 0], .bool false, .bool false]) (by simp [results, Tryd.results64, go_sem]) rfl (rpost_none hx ((((Below.refl _ _).alloc (Nat.le_refl _) _).alloc (by simp) _)))
    · have zs : ((sz : Int) == 0) = false := beqF (by omega)
      clear hz
      have hx := hide (show stepM ⟨2, sz, dg, lg, tr⟩ n = none by simp only [stepM]; rw [if_neg h10])
      have z10 : ((n : Int) == 10) = false := beqF (by omega)
      clear h10
      go_enter Tryd.func64, Tryd.ntmps64
      go_wp2_with fail
      exact bodyPost_ret (v := .tuple #[.agg #[.int .i64 3, .int .i64 (dg : Nat), .int .i64 0, .int .i64 (tr : Nat), .int .i64 (sz : Nat)], .bool false, .bool false]) (by simp [results, Tryd.results64, go_sem]) rfl (rpost_none hx ((((Below.refl _ _).alloc (Nat.le_refl _) _).alloc (by simp) _)))

theorem putB_int {lg n : Nat} {b : Bool} (h : putB lg n = b) : (decide ((lg : Int) + 1 ≤ 200) && plainC n) = b := by
  have e : ((lg : Int) + 1 ≤ 200) ↔ (lg + 1 ≤ 200) := by omega
  rw [← h]; unfold putB; simp only [e]

set_option maxRecDepth 100000 in
set_option maxHeartbeats 8000000 in
theorem rstep_1 (sz dg lg tr n : Nat)  (w : World) (I : Inv ⟨1, sz, dg, lg, tr⟩)  (hn : n ≤ 255) : Calls Tryd.prog 64 #[.agg #[.int .i64 1, .int .i64 (dg : Nat), .int .i64 (lg : Nat), .int .i64 (tr : Nat), .int .i64 (sz : Nat)], .int .u8 (n : Int)] w (RStep (stepM ⟨1, sz, dg, lg, tr⟩ n) w) := by
  have hl := I.long
  simp only at hl
  by_cases h13 : n = 13
  · subst h13
    have hx := hide (show stepM ⟨1, sz, dg, lg, tr⟩ 13 = some (⟨2, sz, dg, lg, tr⟩, false) by simp [stepM])
    go_enter Tryd.func64, Tryd.ntmps64
    go_wp2_with fail
    exact bodyPost_ret (v := .tuple #[.agg #[.int .i64 2, .int .i64 (dg : Nat), .int .i64 (lg : Nat), .int .i64 (tr : Nat), .int .i64 (sz : Nat)], .bool false, .bool true]) (by simp [results, Tryd.results64, go_sem]) rfl (rpost_some hx (relC_mk (l := (lg : Int)) (by omega) (by omega) (by simp <;> omega) (by simp [stN] <;> omega)) ((((Below.refl _ _).alloc (Nat.le_refl _) _).alloc (by simp) _)))
  · cases hp : putB lg n
    · have hx := hide (show stepM ⟨1, sz, dg, lg, tr⟩ n = none by simp only [stepM]; rw [if_neg h13]; unfold putM; simp [putB] at hp; first | (simp [hp]; done) | simpa using hp)
      have hp' := hide hp
      clear hp
      have z13 : ((n : Int) == 13) = false := beqF (by omega)
      clear h13
      go_enter Tryd.func64, Tryd.ntmps64
      go_wp2_with fail
      obtain ⟨w1, hw1⟩ : ∃ w1 : World, w1 = ((w).alloc (.cells #[.int .i64 1, .int .i64 (dg : Nat), .int .i64 (lg : Nat), .int .i64 (tr : Nat), .int .i64 (sz : Nat)] 77)).alloc (.cells #[.int .i64 0, .int .i64 0, .int .i64 0, .int .i64 0, .int .i64 0] 77) := ⟨_, rfl⟩
      rw [← hw1]
      have hB1 : Below w.heap.size w w1 := by rw [hw1]; exact (((Below.refl _ _).alloc (Nat.le_refl _) _).alloc (by simp; try omega) _)
      have Z0 : Blk w1 (w.heap.size) 77 #[.int .i64 1, .int .i64 (dg : Nat), .int .i64 (lg : Nat), .int .i64 (tr : Nat), .int .i64 (sz : Nat)] := by rw [hw1]; exact ((Blk.new _ _ _).alloc _)
      have Z1 : Blk w1 (w.heap.size + 1) 77 #[.int .i64 0, .int .i64 0, .int .i64 0, .int .i64 0, .int .i64 0] := by rw [hw1]; exact (Blk.new' (by simp))
      clear hw1
      have c0 := Z0.cell
      have f0 := Z0.frozen
      have l0 := Z0.lt
      have c1 := Z1.cell
      have f1 := Z1.frozen
      have l1 := Z1.lt
      refine (rtext_any 1 dg lg tr sz n _ hn (by omega) (by omega)).mono ?_
      rintro e w2 ⟨rfl, hb2⟩
      have hq := putB_int hp'.out
      rw [hq]
      clear hq
      have hB2 := hB1.trans (hb2.mono hB1.size)
      replace Z0 := Z0.below hb2 Z0.lt
      replace Z1 := Z1.below hb2 Z1.lt
      clear c0 f0 l0 c1 f1 l1 hb2
      have c0 := Z0.cell
      have f0 := Z0.frozen
      have l0 := Z0.lt
      have c1 := Z1.cell
      have f1 := Z1.frozen
      have l1 := Z1.lt
      go_wp2_with fail
      exact bodyPost_ret (v := .tuple #[.agg #[.int .i64 1, .int .i64 (dg : Nat), .int .i64 ((lg : Int) + 1), .int .i64 (tr : Nat), .int .i64 (sz : Nat)], .bool false, .bool false]) (by simp [results, Tryd.results64, go_sem, c0, c1, f0, f1, l0, l1]) rfl (rpost_none hx (by (repeat (first | with_reducible exact hB2 | with_reducible refine below_set ?_ (by omega) _ | with_reducible refine Below.alloc ?_ (by simp; omega) _))))
    · have hx := hide (show stepM ⟨1, sz, dg, lg, tr⟩ n = some (⟨1, sz, dg, lg + 1, tr⟩, false) by simp only [stepM]; rw [if_neg h13]; unfold putM; simp [putB] at hp; first | (simp [hp]; done) | simpa using hp)
      have hp' := hide hp
      clear hp
      have hl2 : lg + 1 ≤ 200 := by
        have := hp'.out; unfold putB at this; simp at this; omega
      have z13 : ((n : Int) == 13) = false := beqF (by omega)
      clear h13
      go_enter Tryd.func64, Tryd.ntmps64
      go_wp2_with fail
      obtain ⟨w1, hw1⟩ : ∃ w1 : World, w1 = ((w).alloc (.cells #[.int .i64 1, .int .i64 (dg : Nat), .int .i64 (lg : Nat), .int .i64 (tr : Nat), .int .i64 (sz : Nat)] 77)).alloc (.cells #[.int .i64 0, .int .i64 0, .int .i64 0, .int .i64 0, .int .i64 0] 77) := ⟨_, rfl⟩
      rw [← hw1]
      have hB1 : Below w.heap.size w w1 := by rw [hw1]; exact (((Below.refl _ _).alloc (Nat.le_refl _) _).alloc (by simp; try omega) _)
      have Z0 : Blk w1 (w.heap.size) 77 #[.int .i64 1, .int .i64 (dg : Nat), .int .i64 (lg : Nat), .int .i64 (tr : Nat), .int .i64 (sz : Nat)] := by rw [hw1]; exact ((Blk.new _ _ _).alloc _)
      have Z1 : Blk w1 (w.heap.size + 1) 77 #[.int .i64 0, .int .i64 0, .int .i64 0, .int .i64 0, .int .i64 0] := by rw [hw1]; exact (Blk.new' (by simp))
      clear hw1
      have c0 := Z0.cell
      have f0 := Z0.frozen
      have l0 := Z0.lt
      have c1 := Z1.cell
      have f1 := Z1.frozen
      have l1 := Z1.lt
      refine (rtext_any 1 dg lg tr sz n _ hn (by omega) (by omega)).mono ?_
      rintro e w2 ⟨rfl, hb2⟩
      have hq := putB_int hp'.out
      rw [hq]
      clear hq
      have hB2 := hB1.trans (hb2.mono hB1.size)
      replace Z0 := Z0.below hb2 Z0.lt
      replace Z1 := Z1.below hb2 Z1.lt
      clear c0 f0 l0 c1 f1 l1 hb2
      have c0 := Z0.cell
      have f0 := Z0.frozen
      have l0 := Z0.lt
      have c1 := Z1.cell
      have f1 := Z1.frozen
      have l1 := Z1.lt
      go_wp2_with fail
      exact bodyPost_ret (v := .tuple #[.agg #[.int .i64 1, .int .i64 (dg : Nat), .int .i64 ((lg : Int) + 1), .int .i64 (tr : Nat), .int .i64 (sz : Nat)], .bool false, .bool true]) (by simp [results, Tryd.results64, go_sem, c0, c1, f0, f1, l0, l1]) rfl (rpost_some hx (relC_mk (l := ((lg : Int) + 1)) (by omega) (by omega) (by simp <;> omega) (by simp [stN] <;> omega)) (by (repeat (first | with_reducible exact hB2 | with_reducible refine below_set ?_ (by omega) _ | with_reducible refine Below.alloc ?_ (by simp; omega) _))))

end Go.Proofs.YtiigkacmahecaaaDoor
