/-
  The small functions of the laws of control.
-/
import Derived.Test.YtlfldnogjndglaaDoorCtlW
namespace Go.Proofs.YtlfldnogjndglaaDoor
open Go.RowKit
set_option linter.unusedVariables false
set_option linter.unusedSimpArgs false

def keepN (b : Bool) : Int := if b = true then 1 else 0

/-- How much values are. -/
def sumL : List Bs → Nat
  | [] => 0
  | x :: l => 1 + x.length + sumL l
theorem sumL_app (a b : List Bs) : sumL (a ++ b) = sumL a + sumL b := by
  induction a with
  | nil => simp [sumL]
  | cons x a ih => rw [List.cons_append, sumL, sumL, ih]; omega
theorem sumL_take {l : List Bs} {k : Nat} (h : k < l.length) : sumL (l.take (k + 1)) = sumL (l.take k) + (1 + l[k].length) := by
  rw [List.take_succ_eq_append_getElem h, sumL_app]; rfl
theorem sumL_le (l : List Bs) (k : Nat) : sumL (l.take k) ≤ sumL l := by
  have := sumL_app (l.take k) (l.drop k)
  rw [List.take_append_drop] at this; omega
theorem sumL_mem {l : List Bs} {x : Bs} (h : x ∈ l) : x.length ≤ sumL l := by
  induction l with
  | nil => cases h
  | cons y l ih =>
    rw [sumL]
    rcases List.mem_cons.1 h with rfl | h
    · omega
    · have := ih h; omega
def BoolGot (b : Bool) (w : World) (e : Ending) (w' : World) : Prop := e = .returned (.bool b) ∧ w = w'

set_option maxRecDepth 100000 in
set_option maxHeartbeats 4000000 in
theorem great_any (v : Value) (l : List Bs) (w : World) (hr : RdL LS w w.heap.size v l) (hz : ∀ x ∈ l, x.length ≤ 9223372036854770000) : Calls Tryd.prog 5 #[v] w (BoolGot (decide (600 < sumL l)) w) := by
  obtain ⟨A, c, rfl, hlc, hc⟩ := hr.form
  have HR0 := hide hr
  have HZ := hide hz
  have hll := hr.len
  clear hr hz
  go_enter Tryd.func5, Tryd.ntmps5
  go_wp2_with fail
  go_loop [3, 4] (fun c3 c4 => ∃ k : Nat, k ≤ l.length ∧ c4 = .int .i64 (k : Int) ∧ c3 = .int .i64 ((sumL (l.take k) : Nat) : Int) ∧ sumL (l.take k) ≤ 600 + 1 + 9223372036854770000) (fun _ c4 => l.length - (intOf c4).toNat)
  case atStart => exact ⟨0, Nat.zero_le _, rfl, rfl, by rw [List.take_zero]; decide⟩
  case round =>
    obtain ⟨k, hk, rfl, rfl, hS⟩ := hrel
    obtain ⟨n, hn⟩ : ∃ n, n = sumL (l.take k) := ⟨_, rfl⟩
    have hle := sumL_le l k
    rw [← hn] at hS hle ⊢
    have HN := hide hn
    clear hn
    by_cases hlt : k < l.length
    · by_cases h6 : n ≤ 600
      · have d6 : decide ((n : Int) ≤ 600) = true := decide_eq_true (by omega)
        obtain ⟨b0, off, hA, hb0, hcell⟩ := HR0.out.at_ k hlt
        subst hA
        obtain ⟨x, hx⟩ : ∃ x : ByteArray, x = ⟨l[k].toArray⟩ := ⟨_, rfl⟩
        have hcl : w.cell? ⟨b0, off + k, none⟩ = some (.string x) := by rw [hx]; simpa [LS] using hcell 0 _ rfl
        have hxl : x.data.toList = l[k] := by rw [hx]
        have hxs : x.size ≤ 9223372036854770000 := by have := HZ.out l[k] (List.getElem_mem hlt); rw [← hxl, lsize] at this; exact this
        have HS := hide (show sumL (l.take (k + 1)) = n + 1 + x.size by rw [sumL_take hlt, ← HN.out, ← hxl, lsize]; omega)
        clear hx hxl hcell
        go_wp2_with fail
        go_round
        case rel => exact ⟨k + 1, by omega, by go_num, by rw [HS.out]; go_num, by rw [HS.out]; omega⟩
        case measure => simp [intOf]; omega
      · have d6 : decide ((n : Int) ≤ 600) = false := decide_eq_false (by omega)
        have d7 : decide ((n : Int) > 600) = true := decide_eq_true (by omega)
        have HX := hide (show decide (600 < sumL l) = true from decide_eq_true (by omega))
        go_wp2_with fail
        go_ret
        exact ⟨ret_bool (a := true) HX.out.symm, rfl⟩
    · have HX : Hid (n = sumL l) := hide (by rw [HN.out, List.take_of_length_le (by omega)])
      by_cases h6 : n ≤ 600
      · have d7 : decide ((n : Int) > 600) = false := decide_eq_false (by omega)
        have HX2 := hide (show decide (600 < sumL l) = false from decide_eq_false (by rw [← HX.out]; omega))
        go_wp2_with fail
        go_ret
        exact ⟨ret_bool (a := false) HX2.out.symm, rfl⟩
      · have d7 : decide ((n : Int) > 600) = true := decide_eq_true (by omega)
        have HX2 := hide (show decide (600 < sumL l) = true from decide_eq_true (by rw [← HX.out]; omega))
        go_wp2_with fail
        go_ret
        exact ⟨ret_bool (a := true) HX2.out.symm, rfl⟩

end Go.Proofs.YtlfldnogjndglaaDoor
