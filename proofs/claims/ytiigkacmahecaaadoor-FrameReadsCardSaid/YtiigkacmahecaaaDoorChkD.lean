/-
  The reference's reader of a chunked body, byte by byte.
-/
import Derived.Test.YtiigkacmahecaaaDoorChkA
import Derived.Deep.RegionWith
import Derived.Deep.DrawnRows
import Derived.Deep.DeepCutAuto
import Derived.BigRegion
import Derived.Outline
namespace Go.Proofs.YtiigkacmahecaaaDoor
open Go.RowKit
set_option linter.unusedVariables false
set_option linter.unusedSimpArgs false

attribute [local go_sem ↓] Go.wp_at_zero Go.wp_at_succ
set_option maxHeartbeats 1000000 in
theorem hex_any (n : Nat) (w : World) (hn : n ≤ 255) : Calls Tryd.prog 75 #[.int .u8 (n : Int)] w fun e w' => e = .returned (.int .i64 (digI n)) ∧ w = w' := by
  by_cases h1 : 48 ≤ n ∧ n ≤ 57
  · have hx := hide (show digI n = (n : Int) - 48 by unfold digI digV; rw [if_pos h1]; simp; omega)
    obtain ⟨h1, h2⟩ := h1
    go_enter Tryd.func75, Tryd.ntmps75
    go_wp2
    go_ret
    exact ⟨ret_int hx.out.symm, rfl⟩
  · by_cases h2 : 97 ≤ n ∧ n ≤ 102
    · have hx := hide (show digI n = (n : Int) - 97 + 10 by unfold digI digV; rw [if_neg h1, if_pos h2]; simp; omega)
      obtain ⟨h2, h3⟩ := h2
      clear h1
      go_enter Tryd.func75, Tryd.ntmps75
      go_wp2
      go_ret
      exact ⟨ret_int hx.out.symm, rfl⟩
    · by_cases h3 : 65 ≤ n ∧ n ≤ 70
      · have hx := hide (show digI n = (n : Int) - 65 + 10 by unfold digI digV; rw [if_neg h1, if_neg h2, if_pos h3]; simp; omega)
        obtain ⟨h3, h4⟩ := h3
        clear h1 h2
        go_enter Tryd.func75, Tryd.ntmps75
        go_wp2
        go_ret
        exact ⟨ret_int hx.out.symm, rfl⟩
      · have hx := hide (show digI n = -1 by unfold digI digV; rw [if_neg h1, if_neg h2, if_neg h3])
        go_enter Tryd.func75, Tryd.ntmps75
        go_wp2
        all_goals first | (exfalso; omega) | (go_ret; exact ⟨ret_int hx.out.symm, rfl⟩)

set_option maxHeartbeats 1000000 in
theorem plain_any (n : Nat) (w : World) (hn : n ≤ 255) : Calls Tryd.prog 82 #[.int .u8 (n : Int)] w fun e w' => e = .returned (.bool (plainC n)) ∧ w = w' := by
  by_cases h2 : 32 ≤ n
  · by_cases h3 : n ≤ 126
    · have hx := hide (show plainC n = true by simp [plainC] <;> omega)
      go_enter Tryd.func82, Tryd.ntmps82
      go_wp2
      all_goals first | (exfalso; omega) | (go_ret; exact ⟨ret_bool (by first | (rw [hx.out]; done) | (rw [hx.out]; simp <;> omega)), rfl⟩)
    · by_cases h4 : n = 9
      · exfalso; omega
      · have hx := hide (show plainC n = false by simp [plainC] <;> omega)
        go_enter Tryd.func82, Tryd.ntmps82
        go_wp2
        all_goals first | (exfalso; omega) | (go_ret; exact ⟨ret_bool (by first | (rw [hx.out]; done) | (rw [hx.out]; simp <;> omega)), rfl⟩)
  · by_cases h4 : n = 9
    · subst h4
      have hx := hide (show plainC 9 = true by simp [plainC] <;> omega)
      go_enter Tryd.func82, Tryd.ntmps82
      go_wp2
      all_goals first | (exfalso; omega) | (go_ret; exact ⟨ret_bool (by first | (rw [hx.out]; done) | (rw [hx.out]; simp <;> omega)), rfl⟩)
    · have hx := hide (show plainC n = false by simp [plainC] <;> omega)
      go_enter Tryd.func82, Tryd.ntmps82
      go_wp2
      all_goals first | (exfalso; omega) | (go_ret; exact ⟨ret_bool (by first | (rw [hx.out]; done) | (rw [hx.out]; simp <;> omega)), rfl⟩)

theorem ret_ab {cs : Array Value} {a b : Bool} (h : a = b) : Ending.returned (.tuple #[.agg cs, .bool a]) = .returned (.tuple #[.agg cs, .bool b]) := by rw [h]
def AggBool (cs : Array Value) (b : Bool) (w : World) (e : Ending) (w' : World) : Prop := e = .returned (.tuple #[.agg cs, .bool b]) ∧ Below w.heap.size w w'
def AggBools (cs : Array Value) (a b : Bool) (w : World) (e : Ending) (w' : World) : Prop := e = .returned (.tuple #[.agg cs, .bool a, .bool b]) ∧ Below w.heap.size w w'

section
variable {w : World} {g : Nat} {c0 c1 c2 c3 c4 : Value} {t : TypeId}
theorem five {u0 u1 u2 u3 u4 : Value} (X : Blk w g t #[c0, c1, c2, c3, c4]) : Blk (((((w.setCell ⟨g, 0, none⟩ u0).setCell ⟨g, 1, none⟩ u1).setCell ⟨g, 2, none⟩ u2).setCell ⟨g, 3, none⟩ u3).setCell ⟨g, 4, none⟩ u4) g t #[u0, u1, u2, u3, u4] := by
  have h := ((((X.set_ 0 u0).set_ 1 u1).set_ 2 u2).set_ 3 u3).set_ 4 u4
  rwa [show ((((#[c0, c1, c2, c3, c4].setIfInBounds 0 u0).setIfInBounds 1 u1).setIfInBounds 2 u2).setIfInBounds 3 u3).setIfInBounds 4 u4 = #[u0, u1, u2, u3, u4] from rfl] at h
end
theorem bel5 {w w1 : World} {g : Nat} {u0 u1 u2 u3 u4 : Value} (h : Below w.heap.size w w1) (hg : w.heap.size ≤ g) : Below w.heap.size w (((((w1.setCell ⟨g, 0, none⟩ u0).setCell ⟨g, 1, none⟩ u1).setCell ⟨g, 2, none⟩ u2).setCell ⟨g, 3, none⟩ u3).setCell ⟨g, 4, none⟩ u4).drew :=
  (below_set (below_set (below_set (below_set (below_set h hg _) hg _) hg _) hg _) hg _).drew

set_option maxRecDepth 100000 in
set_option maxHeartbeats 4000000 in
theorem rtext_any (s d l t z : Int) (n : Nat) (w : World) (hn : n ≤ 255) (h0 : 0 ≤ l) (h1 : l ≤ 200) : Calls Tryd.prog 76 #[.agg #[.int .i64 s, .int .i64 d, .int .i64 l, .int .i64 t, .int .i64 z], .int .u8 (n : Int)] w (AggBool #[.int .i64 s, .int .i64 d, .int .i64 (l + 1), .int .i64 t, .int .i64 z] (decide (l + 1 ≤ 200) && plainC n) w) := by
  have HPL := hide (fun W => plain_any n W hn)
  cases hp : plainC n
  all_goals rw [hp] at HPL
  all_goals (have hp' := hide hp; clear hp)
  · go_enter Tryd.func76, Tryd.ntmps76
    go_upto_region 2 with fail
    obtain ⟨w1, hw1⟩ : ∃ w1 : World, w1 = ((w).alloc (.cells #[.int .i64 s, .int .i64 d, .int .i64 (l + 1), .int .i64 t, .int .i64 z] 77)).alloc (.cells #[.int .i64 0, .int .i64 0, .int .i64 0, .int .i64 0, .int .i64 0] 77) := ⟨_, rfl⟩
    rw [← hw1]
    have hB1 : Below w.heap.size w w1 := by rw [hw1]; exact (((Below.refl _ _).alloc (Nat.le_refl _) _).alloc (by simp; try omega) _)
    have Z0 : Blk w1 (w.heap.size) 77 #[.int .i64 s, .int .i64 d, .int .i64 (l + 1), .int .i64 t, .int .i64 z] := by rw [hw1]; exact ((Blk.new _ _ _).alloc _)
    have Z1 : Blk w1 (w.heap.size + 1) 77 #[.int .i64 0, .int .i64 0, .int .i64 0, .int .i64 0, .int .i64 0] := by rw [hw1]; exact (Blk.new' (by simp))
    clear hw1
    have c0 := Z0.cell
    have f0 := Z0.frozen
    have l0 := Z0.lt
    have c1 := Z1.cell
    have f1 := Z1.frozen
    have l1 := Z1.lt
    go_cut [5] (fun b5 wx => b5 = .bool false ∧ Blk wx (w.heap.size + 1) 77 #[.int .i64 s, .int .i64 d, .int .i64 (l + 1), .int .i64 t, .int .i64 z] ∧ Below w.heap.size w wx)
    case first =>
      first | (go_region_with ((go_at_call 82; refine (HPL.out _).mono ?_; rintro e w' ⟨rfl, rfl⟩))) | fail
      all_goals (go_wp2_with fail; go_meet)
      all_goals with_reducible exact ⟨rfl, (five Z1).drew, bel5 hB1 (by omega)⟩
    case rest =>
      obtain ⟨rfl, Z2, hb2⟩ := hcut
      have c2 := Z2.cell
      go_wp2_with fail
      exact bodyPost_ret (v := .tuple #[.agg #[.int .i64 s, .int .i64 d, .int .i64 (l + 1), .int .i64 t, .int .i64 z], .bool false]) (by simp [results, Tryd.results76, go_sem, c2]) rfl ⟨ret_ab (by first | rfl | simp [hp'.out]), hb2⟩
  · go_enter Tryd.func76, Tryd.ntmps76
    go_upto_region 2 with fail
    obtain ⟨w1, hw1⟩ : ∃ w1 : World, w1 = ((w).alloc (.cells #[.int .i64 s, .int .i64 d, .int .i64 (l + 1), .int .i64 t, .int .i64 z] 77)).alloc (.cells #[.int .i64 0, .int .i64 0, .int .i64 0, .int .i64 0, .int .i64 0] 77) := ⟨_, rfl⟩
    rw [← hw1]
    have hB1 : Below w.heap.size w w1 := by rw [hw1]; exact (((Below.refl _ _).alloc (Nat.le_refl _) _).alloc (by simp; try omega) _)
    have Z0 : Blk w1 (w.heap.size) 77 #[.int .i64 s, .int .i64 d, .int .i64 (l + 1), .int .i64 t, .int .i64 z] := by rw [hw1]; exact ((Blk.new _ _ _).alloc _)
    have Z1 : Blk w1 (w.heap.size + 1) 77 #[.int .i64 0, .int .i64 0, .int .i64 0, .int .i64 0, .int .i64 0] := by rw [hw1]; exact (Blk.new' (by simp))
    clear hw1
    have c0 := Z0.cell
    have f0 := Z0.frozen
    have l0 := Z0.lt
    have c1 := Z1.cell
    have f1 := Z1.frozen
    have l1 := Z1.lt
    go_cut [5] (fun b5 wx => b5 = .bool (decide (l + 1 ≤ 200)) ∧ Blk wx (w.heap.size + 1) 77 #[.int .i64 s, .int .i64 d, .int .i64 (l + 1), .int .i64 t, .int .i64 z] ∧ Below w.heap.size w wx)
    case first =>
      first | (go_region_with ((go_at_call 82; refine (HPL.out _).mono ?_; rintro e w' ⟨rfl, rfl⟩))) | fail
      all_goals (go_wp2_with fail; go_meet)
      all_goals with_reducible exact ⟨rfl, (five Z1).drew, bel5 hB1 (by omega)⟩
    case rest =>
      obtain ⟨rfl, Z2, hb2⟩ := hcut
      have c2 := Z2.cell
      go_wp2_with fail
      exact bodyPost_ret (v := .tuple #[.agg #[.int .i64 s, .int .i64 d, .int .i64 (l + 1), .int .i64 t, .int .i64 z], .bool (decide (l + 1 ≤ 200))]) (by simp [results, Tryd.results76, go_sem, c2]) rfl ⟨ret_ab (by first | rfl | simp [hp'.out]), hb2⟩

end Go.Proofs.YtiigkacmahecaaaDoor
