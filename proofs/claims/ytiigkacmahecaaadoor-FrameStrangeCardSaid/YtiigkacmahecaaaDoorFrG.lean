/-
  Whether fields are too many.
-/
import Derived.Test.YtiigkacmahecaaaDoorGrF
import Derived.Deep.DeepCutAuto
namespace Go.Proofs.YtiigkacmahecaaaDoor
open Go.RowKit
set_option linter.unusedVariables false
set_option linter.unusedSimpArgs false

def GreatOk (l : List FieldL) (w : World) (e : Ending) (w' : World) : Prop := ∃ r : Bool, e = .returned (.bool r) ∧ Below w.heap.size w w' ∧ (r = false → l.length ≤ 130 ∧ sumF l ≤ 12000)
theorem sumF_bd {M : Nat} : ∀ (l : List FieldL), (∀ f ∈ l, f.1.length ≤ M ∧ f.2.length ≤ M) → sumF l ≤ l.length * (M + M)
  | [], _ => by simp [sumF]
  | f :: r, h => by
    have := sumF_bd r (fun g hg => h g (by simp [hg]))
    have := h f (by simp)
    rw [sumF, List.length_cons, Nat.succ_mul]
    omega
theorem sumF_take {l : List FieldL} {k : Nat} (h : k < l.length) : sumF (l.take (k + 1)) = sumF (l.take k) + (l[k].1.length + l[k].2.length) := by
  rw [List.take_succ_eq_append_getElem h, sumF_app]; simp [sumF]

set_option maxRecDepth 100000 in
set_option maxHeartbeats 8000000 in
theorem great_any (v : Value) (l : List FieldL) (w : World) (hr : RdL LF w w.heap.size v l) (hz : ∀ f ∈ l, f.1.length ≤ 140737488351232 ∧ f.2.length ≤ 140737488351232) : Calls Tryd.prog 11 #[v] w (GreatOk l w) := by
  obtain ⟨A, c, rfl, hlc, hc⟩ := hr.form
  have hlen := hr.len
  have HR := hide hr
  clear hr
  by_cases h130 : l.length ≤ 130
  · go_enter Tryd.func11, Tryd.ntmps11
    go_wp2_with fail
    go_loopw [3, 5, 8] (fun c3 _ c8 wr => ∃ (k : Nat) (n : Int), k ≤ l.length ∧ c8 = .int .i64 (k : Int) ∧ c3 = .int .i64 n ∧ Hid (n = (sumF (l.take k) : Int)) ∧ Below w.heap.size w wr) (fun _ _ c8 _ => l.length - (intOf c8).toNat)
    case atStart => exact ⟨0, 0, Nat.zero_le _, rfl, rfl, (show (0 : Int) = (sumF [] : Int) by simp [sumF]), Below.refl _ _⟩
    case round =>
      obtain ⟨k, n, hk, rfl, rfl, HS, hb⟩ := hrel
      by_cases hlt : k < l.length
      · obtain ⟨b0, off, hA, hbl, c0, c1⟩ := HR.out.field k hlt
        subst hA
        obtain ⟨x, hx⟩ : ∃ x : ByteArray, x = ⟨l[k].1.toArray⟩ := ⟨_, rfl⟩
        obtain ⟨y, hy⟩ : ∃ x : ByteArray, x = ⟨l[k].2.toArray⟩ := ⟨_, rfl⟩
        rw [← hx] at c0
        rw [← hy] at c1
        have d0 : wr.cell? ⟨b0, off + k * 2, none⟩ = some (.string x) := by rw [hb.cell (by show b0 < _; omega)]; exact c0
        have d1 : wr.cell? ⟨b0, off + k * 2 + 1, none⟩ = some (.string y) := by rw [hb.cell (by show b0 < _; omega)]; exact c1
        have hst : sumF (l.take (k + 1)) = sumF (l.take k) + (x.size + y.size) := by rw [sumF_take hlt, ← lsize x, ← lsize y, hx, hy]
        have hxr : x.size ≤ 140737488351232 := by rw [← lsize, hx]; exact (hz _ (List.getElem_mem hlt)).1
        have hyr : y.size ≤ 140737488351232 := by rw [← lsize, hy]; exact (hz _ (List.getElem_mem hlt)).2
        have hxr2 : x.size ≤ 9223372036854775807 := by omega
        have hyr2 : y.size ≤ 9223372036854775807 := by omega
        have HST := hide hst
        have hbz := hb.size
        have hbd : sumF (l.take k) ≤ 130 * 281474976702464 := by
          have h1 := sumF_bd (l.take k) (fun f hf => hz f (List.mem_of_mem_take hf))
          have h2 : (l.take k).length ≤ 130 := by rw [List.length_take]; omega
          exact Nat.le_trans h1 (Nat.le_trans (Nat.mul_le_mul_right _ h2) (by omega))
        have hn0 : 0 ≤ n := by have := HS.out; omega
        have hn1 : n ≤ 36591746971320320 := by have := HS.out; omega
        have HN := hide (show n + (x.size : Int) + (y.size : Int) = (sumF (l.take (k + 1)) : Int) by rw [HST.out, HS.out]; omega)
        clear hbd
        clear c0 c1 hx hy hst
        go_upto_region 5 with fail
        obtain ⟨w1, hw1⟩ : ∃ W : World, W = wr.alloc (.cells #[.string x, .string y] 59) := ⟨_, rfl⟩
        first | rw [← hw1] | skip
        have X : Blk w1 wr.heap.size 59 #[.string x, .string y] := by rw [hw1]; exact Blk.new _ _ _
        have hB1 : Below w.heap.size w w1 := by rw [hw1]; exact hb.alloc hb.size _
        have cX := X.cell
        clear hw1 d0 d1 hb
        go_wp2_with fail
        go_roundw
        case rel => exact ⟨k + 1, _, by omega, by go_num, by first | rfl | go_num, HN, hB1⟩
        case measure => simp [intOf] <;> omega
      · have HX := hide (show n = (sumF l : Int) by have := HS.out; rwa [List.take_of_length_le (by omega)] at this)
        have d1 : decide ((l.length : Int) > 130) = false := decide_eq_false (by omega)
        by_cases h2 : 12000 < n
        · have d2 : decide (n > 12000) = true := decide_eq_true h2
          clear h2
          go_wp2_with fail
          go_ret
          exact ⟨true, rfl, hb, by simp⟩
        · have d2 : decide (n > 12000) = false := decide_eq_false h2
          have HY := hide (show sumF l ≤ 12000 by have := HX.out; omega)
          clear h2
          go_wp2_with fail
          go_ret
          exact ⟨false, rfl, hb, fun _ => ⟨h130, HY.out⟩⟩
  · go_enter Tryd.func11, Tryd.ntmps11
    go_wp2_with fail
    go_loopw [3, 5, 8] (fun c3 _ c8 wr => ∃ (k : Nat) (n : Int), k ≤ l.length ∧ c8 = .int .i64 (k : Int) ∧ c3 = .int .i64 n ∧ Below w.heap.size w wr) (fun _ _ c8 _ => l.length - (intOf c8).toNat)
    case atStart => exact ⟨0, 0, Nat.zero_le _, rfl, rfl, Below.refl _ _⟩
    case round =>
      obtain ⟨k, n, hk, rfl, rfl, hb⟩ := hrel
      by_cases hlt : k < l.length
      · obtain ⟨b0, off, hA, hbl, c0, c1⟩ := HR.out.field k hlt
        subst hA
        obtain ⟨x, hx⟩ : ∃ x : ByteArray, x = ⟨l[k].1.toArray⟩ := ⟨_, rfl⟩
        obtain ⟨y, hy⟩ : ∃ x : ByteArray, x = ⟨l[k].2.toArray⟩ := ⟨_, rfl⟩
        rw [← hx] at c0
        rw [← hy] at c1
        have d0 : wr.cell? ⟨b0, off + k * 2, none⟩ = some (.string x) := by rw [hb.cell (by show b0 < _; omega)]; exact c0
        have d1 : wr.cell? ⟨b0, off + k * 2 + 1, none⟩ = some (.string y) := by rw [hb.cell (by show b0 < _; omega)]; exact c1
        have hst : sumF (l.take (k + 1)) = sumF (l.take k) + (x.size + y.size) := by rw [sumF_take hlt, ← lsize x, ← lsize y, hx, hy]
        have hxr : x.size ≤ 140737488351232 := by rw [← lsize, hx]; exact (hz _ (List.getElem_mem hlt)).1
        have hyr : y.size ≤ 140737488351232 := by rw [← lsize, hy]; exact (hz _ (List.getElem_mem hlt)).2
        have hxr2 : x.size ≤ 9223372036854775807 := by omega
        have hyr2 : y.size ≤ 9223372036854775807 := by omega
        have HST := hide hst
        have hbz := hb.size
        clear c0 c1 hx hy hst
        go_upto_region 5 with fail
        obtain ⟨w1, hw1⟩ : ∃ W : World, W = wr.alloc (.cells #[.string x, .string y] 59) := ⟨_, rfl⟩
        first | rw [← hw1] | skip
        have X : Blk w1 wr.heap.size 59 #[.string x, .string y] := by rw [hw1]; exact Blk.new _ _ _
        have hB1 : Below w.heap.size w w1 := by rw [hw1]; exact hb.alloc hb.size _
        have cX := X.cell
        clear hw1 d0 d1 hb
        go_wp2_with fail
        go_roundw
        case rel => exact ⟨k + 1, _, by omega, by go_num, rfl, hB1⟩
        case measure => simp [intOf] <;> omega
      · have d1 : decide ((l.length : Int) > 130) = true := decide_eq_true (by omega)
        go_wp2_with fail
        go_ret
        exact ⟨true, rfl, hb, by simp⟩

end Go.Proofs.YtiigkacmahecaaaDoor
