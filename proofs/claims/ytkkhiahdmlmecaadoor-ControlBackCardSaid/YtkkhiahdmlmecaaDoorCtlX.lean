/-
  The small functions of the laws of control.
-/
import Derived.Test.YtkkhiahdmlmecaaDoorCtlW
namespace Go.Proofs.YtkkhiahdmlmecaaDoor
open Go.RowKit
set_option linter.unusedVariables false
set_option linter.unusedSimpArgs false

set_option maxRecDepth 100000 in
set_option maxHeartbeats 4000000 in
theorem own_any (mx sh wh er : Int) (ns nc pv : Bool) (w : World) : Calls Tryd.prog 17 #[.agg #[.int .i64 mx, .int .i64 sh, .int .i64 wh, .int .i64 er, .bool ns, .bool nc, .bool pv]] w (AggIs #[.int .i64 mx, .int .i64 sh, .int .i64 wh, .int .i64 er, .bool ns, .bool nc, .bool pv] w) := by
  go_enter Tryd.func17, Tryd.ntmps17
  go_upto_region 1 with fail
  obtain ⟨w1, hw1⟩ : ∃ w1 : World, w1 = ((w).alloc (.cells #[.int .i64 mx, .int .i64 sh, .int .i64 wh, .int .i64 er, .bool ns, .bool nc, .bool pv] 29)).alloc (.cells #[.int .i64 0, .int .i64 0, .int .i64 0, .int .i64 0, .bool false, .bool false, .bool false] 27) := ⟨_, rfl⟩
  rw [← hw1]
  have hB1 : Below w.heap.size w w1 := by rw [hw1]; exact (((Below.refl _ _).alloc (Nat.le_refl _) _).alloc (by simp; try omega) _)
  have T : Blk w1 (w.heap.size) 29 #[.int .i64 mx, .int .i64 sh, .int .i64 wh, .int .i64 er, .bool ns, .bool nc, .bool pv] := by rw [hw1]; exact ((Blk.new _ _ _).alloc _)
  have Z : Blk w1 (w.heap.size + 1) 27 #[.int .i64 0, .int .i64 0, .int .i64 0, .int .i64 0, .bool false, .bool false, .bool false] := by rw [hw1]; exact (Blk.new' (by simp))
  clear hw1
  have cT := T.cell
  have cZ := Z.cell
  have fZ := Z.frozen
  go_wp2_with fail
  refine bodyPost_ret (v := .agg #[.int .i64 mx, .int .i64 sh, .int .i64 wh, .int .i64 er, .bool ns, .bool nc, .bool pv]) (by simp [results, Tryd.results17, go_sem, cZ]) rfl ⟨rfl, ?_⟩
  repeat (refine below_set ?_ (Nat.le_succ _) _)
  exact hB1

set_option maxRecDepth 100000 in
set_option maxHeartbeats 4000000 in
theorem same_self (mx sh wh er : Int) (ns nc pv : Bool) (w : World) : Calls Tryd.prog 13 #[.agg #[.int .i64 mx, .int .i64 sh, .int .i64 wh, .int .i64 er, .bool ns, .bool nc, .bool pv], .agg #[.int .i64 mx, .int .i64 sh, .int .i64 wh, .int .i64 er, .bool ns, .bool nc, .bool pv]] w (BoolOk true w) := by
  go_enter Tryd.func13, Tryd.ntmps13
  go_upto_region 1 with fail
  obtain ⟨w1, hw1⟩ : ∃ w1 : World, w1 = ((w).alloc (.cells #[.int .i64 mx, .int .i64 sh, .int .i64 wh, .int .i64 er, .bool ns, .bool nc, .bool pv] 27)).alloc (.cells #[.int .i64 mx, .int .i64 sh, .int .i64 wh, .int .i64 er, .bool ns, .bool nc, .bool pv] 29) := ⟨_, rfl⟩
  rw [← hw1]
  have hB1 : Below w.heap.size w w1 := by rw [hw1]; exact (((Below.refl _ _).alloc (Nat.le_refl _) _).alloc (by simp; try omega) _)
  have T : Blk w1 (w.heap.size) 27 #[.int .i64 mx, .int .i64 sh, .int .i64 wh, .int .i64 er, .bool ns, .bool nc, .bool pv] := by rw [hw1]; exact ((Blk.new _ _ _).alloc _)
  have U : Blk w1 (w.heap.size + 1) 29 #[.int .i64 mx, .int .i64 sh, .int .i64 wh, .int .i64 er, .bool ns, .bool nc, .bool pv] := by rw [hw1]; exact (Blk.new' (by simp))
  clear hw1
  have cT := T.cell
  have cU := U.cell
  have e1 : (mx == mx) = true := by simp
  have e2 : (sh == sh) = true := by simp
  have e3 : (wh == wh) = true := by simp
  have e4 : (er == er) = true := by simp
  have e5 : (ns == ns) = true := by simp
  have e6 : (nc == nc) = true := by simp
  have e7 : (pv == pv) = true := by simp
  go_wp2_with fail
  go_ret
  exact ⟨rfl, hB1⟩

def keepN (b : Bool) : Int := if b = true then 1 else 0

set_option maxRecDepth 100000 in
set_option maxHeartbeats 4000000 in
theorem ticks_any (mt : ByteArray) (mk : Bool) (md ln hv fr wh er : Int) (A : Option Addr) (n c : Nat) (tn : ByteArray) (kp : Bool) (w : World) : Calls Tryd.prog 20 #[.agg #[.string mt, .bool mk, .int .i64 md, .int .i64 ln, .int .i64 hv, .int .i64 fr, .int .i64 wh, .int .i64 er, .slice A n c, .string tn, .bool kp]] w (AggIs #[.int .i64 fr, .int .i64 wh, .int .i64 er, .int .i64 (keepN kp)] w) := by
  cases kp
  · go_enter Tryd.func20, Tryd.ntmps20
    go_upto_region 1 with fail
    obtain ⟨w1, hw1⟩ : ∃ w1 : World, w1 = ((w).alloc (.cells #[.string mt, .bool mk, .int .i64 md, .int .i64 ln, .int .i64 hv, .int .i64 fr, .int .i64 wh, .int .i64 er, .slice A n c, .string tn, .bool false] 39)).alloc (.cells #[.int .i64 0, .int .i64 0, .int .i64 0, .int .i64 0] 41) := ⟨_, rfl⟩
    rw [← hw1]
    have hB1 : Below w.heap.size w w1 := by rw [hw1]; exact (((Below.refl _ _).alloc (Nat.le_refl _) _).alloc (by simp; try omega) _)
    have T : Blk w1 (w.heap.size) 39 #[.string mt, .bool mk, .int .i64 md, .int .i64 ln, .int .i64 hv, .int .i64 fr, .int .i64 wh, .int .i64 er, .slice A n c, .string tn, .bool false] := by rw [hw1]; exact ((Blk.new _ _ _).alloc _)
    have Z : Blk w1 (w.heap.size + 1) 41 #[.int .i64 0, .int .i64 0, .int .i64 0, .int .i64 0] := by rw [hw1]; exact (Blk.new' (by simp))
    clear hw1
    have cT := T.cell
    have cZ := Z.cell
    have fZ := Z.frozen
    go_wp2_with fail
    refine bodyPost_ret (v := .agg #[.int .i64 fr, .int .i64 wh, .int .i64 er, .int .i64 0]) (by simp [results, Tryd.results20, go_sem, cZ]) rfl ⟨rfl, ?_⟩
    repeat (refine below_set ?_ (Nat.le_succ _) _)
    exact hB1
  · go_enter Tryd.func20, Tryd.ntmps20
    go_upto_region 1 with fail
    obtain ⟨w1, hw1⟩ : ∃ w1 : World, w1 = ((w).alloc (.cells #[.string mt, .bool mk, .int .i64 md, .int .i64 ln, .int .i64 hv, .int .i64 fr, .int .i64 wh, .int .i64 er, .slice A n c, .string tn, .bool true] 39)).alloc (.cells #[.int .i64 0, .int .i64 0, .int .i64 0, .int .i64 0] 41) := ⟨_, rfl⟩
    rw [← hw1]
    have hB1 : Below w.heap.size w w1 := by rw [hw1]; exact (((Below.refl _ _).alloc (Nat.le_refl _) _).alloc (by simp; try omega) _)
    have T : Blk w1 (w.heap.size) 39 #[.string mt, .bool mk, .int .i64 md, .int .i64 ln, .int .i64 hv, .int .i64 fr, .int .i64 wh, .int .i64 er, .slice A n c, .string tn, .bool true] := by rw [hw1]; exact ((Blk.new _ _ _).alloc _)
    have Z : Blk w1 (w.heap.size + 1) 41 #[.int .i64 0, .int .i64 0, .int .i64 0, .int .i64 0] := by rw [hw1]; exact (Blk.new' (by simp))
    clear hw1
    have cT := T.cell
    have cZ := Z.cell
    have fZ := Z.frozen
    go_wp2_with fail
    refine bodyPost_ret (v := .agg #[.int .i64 fr, .int .i64 wh, .int .i64 er, .int .i64 1]) (by simp [results, Tryd.results20, go_sem, cZ]) rfl ⟨rfl, ?_⟩
    repeat (refine below_set ?_ (Nat.le_succ _) _)
    exact hB1

/-- How much values are. -/
def sumL : List Bs → Nat
  | [] => 0
  | x :: l => 1 + x.length + sumL l
theorem sumL_app (a b : List Bs) : sumL (a ++ b) = sumL a + sumL b := by
  induction a with
  | nil => simp [sumL]
  | cons x a ih => rw [List.cons_append, sumL, sumL, ih]; omega
theorem sumL_take {l : List Bs} {k : Nat} (h : k < l.length) : sumL (l.take (k + 1)) = sumL (l.take k) + (1 + l[k].length) := by
  rw [List.take_succ_eq_append_getElem h, sumL_app]; rfl
theorem sumL_le (l : List Bs) (k : Nat) : sumL (l.take k) ≤ sumL l := by
  have := sumL_app (l.take k) (l.drop k)
  rw [List.take_append_drop] at this; omega
theorem sumL_mem {l : List Bs} {x : Bs} (h : x ∈ l) : x.length ≤ sumL l := by
  induction l with
  | nil => cases h
  | cons y l ih =>
    rw [sumL]
    rcases List.mem_cons.1 h with rfl | h
    · omega
    · have := ih h; omega
def BoolGot (b : Bool) (w : World) (e : Ending) (w' : World) : Prop := e = .returned (.bool b) ∧ w = w'

set_option maxRecDepth 100000 in
set_option maxHeartbeats 4000000 in
theorem great_any (v : Value) (l : List Bs) (w : World) (hr : RdL LS w w.heap.size v l) (hz : ∀ x ∈ l, x.length ≤ 9223372036854770000) : Calls Tryd.prog 12 #[v] w (BoolGot (decide (600 < sumL l)) w) := by
  obtain ⟨A, c, rfl, hlc, hc⟩ := hr.form
  have HR0 := hide hr
  have HZ := hide hz
  have hll := hr.len
  clear hr hz
  go_enter Tryd.func12, Tryd.ntmps12
  go_wp2_with fail
  go_loop [3, 4] (fun c3 c4 => ∃ k : Nat, k ≤ l.length ∧ c4 = .int .i64 (k : Int) ∧ c3 = .int .i64 ((sumL (l.take k) : Nat) : Int) ∧ sumL (l.take k) ≤ 600 + 1 + 9223372036854770000) (fun _ c4 => l.length - (intOf c4).toNat)
  case atStart => exact ⟨0, Nat.zero_le _, rfl, rfl, by rw [List.take_zero]; decide⟩
  case round =>
    obtain ⟨k, hk, rfl, rfl, hS⟩ := hrel
    obtain ⟨n, hn⟩ : ∃ n, n = sumL (l.take k) := ⟨_, rfl⟩
    have hle := sumL_le l k
    rw [← hn] at hS hle ⊢
    have HN := hide hn
    clear hn
    by_cases hlt : k < l.length
    · by_cases h6 : n ≤ 600
      · have d6 : decide ((n : Int) ≤ 600) = true := decide_eq_true (by omega)
        obtain ⟨b0, off, hA, hb0, hcell⟩ := HR0.out.at_ k hlt
        subst hA
        obtain ⟨x, hx⟩ : ∃ x : ByteArray, x = ⟨l[k].toArray⟩ := ⟨_, rfl⟩
        have hcl : w.cell? ⟨b0, off + k, none⟩ = some (.string x) := by rw [hx]; simpa [LS] using hcell 0 _ rfl
        have hxl : x.data.toList = l[k] := by rw [hx]
        have hxs : x.size ≤ 9223372036854770000 := by have := HZ.out l[k] (List.getElem_mem hlt); rw [← hxl, lsize] at this; exact this
        have HS := hide (show sumL (l.take (k + 1)) = n + 1 + x.size by rw [sumL_take hlt, ← HN.out, ← hxl, lsize]; omega)
        clear hx hxl hcell
        go_wp2_with fail
        go_round
        case rel => exact ⟨k + 1, by omega, by go_num, by rw [HS.out]; go_num, by rw [HS.out]; omega⟩
        case measure => simp [intOf]; omega
      · have d6 : decide ((n : Int) ≤ 600) = false := decide_eq_false (by omega)
        have d7 : decide ((n : Int) > 600) = true := decide_eq_true (by omega)
        have HX := hide (show decide (600 < sumL l) = true from decide_eq_true (by omega))
        go_wp2_with fail
        go_ret
        exact ⟨ret_bool (a := true) HX.out.symm, rfl⟩
    · have HX : Hid (n = sumL l) := hide (by rw [HN.out, List.take_of_length_le (by omega)])
      by_cases h6 : n ≤ 600
      · have d7 : decide ((n : Int) > 600) = false := decide_eq_false (by omega)
        have HX2 := hide (show decide (600 < sumL l) = false from decide_eq_false (by rw [← HX.out]; omega))
        go_wp2_with fail
        go_ret
        exact ⟨ret_bool (a := false) HX2.out.symm, rfl⟩
      · have d7 : decide ((n : Int) > 600) = true := decide_eq_true (by omega)
        have HX2 := hide (show decide (600 < sumL l) = true from decide_eq_true (by rw [← HX.out]; omega))
        go_wp2_with fail
        go_ret
        exact ⟨ret_bool (a := true) HX2.out.symm, rfl⟩

end Go.Proofs.YtkkhiahdmlmecaaDoor
