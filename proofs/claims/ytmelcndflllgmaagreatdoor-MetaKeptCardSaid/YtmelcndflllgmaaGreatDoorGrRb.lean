/-
  Merged: RctA, RctB, RctC.
-/
import Derived.Test.YtmelcndflllgmaaGreatDoorGrCt
import Derived.Deep.DeepCutAuto
import Derived.Deep.RegionHeld3
import Derived.Test.YtmelcndflllgmaaGreatDoorGrU
namespace Go.Proofs.YtmelcndflllgmaaGreatDoor
open Go.RowKit
set_option linter.unusedVariables false
set_option linter.unusedSimpArgs false

def capV (n : Int) : Int := min n 1099511627776
theorem with_cap (n : Int) : withinV n = if n < 0 then 0 else capV n := by unfold withinV capV; split <;> omega

set_option maxHeartbeats 400000 in
theorem rmost_any (w : World) : Calls Tryz.prog 114 #[] w (IntIs 1099511627776 w) := by
  go_enter Tryz.func114, Tryz.ntmps114
  go_wp2
  go_ret
  exact ⟨rfl, rfl⟩

set_option maxHeartbeats 1000000 in
theorem rcap_any (n : Int) (w : World) : Calls Tryz.prog 90 #[.int .i64 n] w (IntIs (capV n) w) := by
  by_cases h : 1099511627776 < n
  · have d1 : decide (1099511627776 < n) = true := by simpa using h
    have hx := hide (show capV n = 1099511627776 by unfold capV; omega)
    go_enter Tryz.func90, Tryz.ntmps90
    go_wp2_with fail
    refine (rmost_any _).mono ?_
    rintro e w' ⟨rfl, rfl⟩
    go_wp2_with fail
    refine (rmost_any _).mono ?_
    rintro e w' ⟨rfl, rfl⟩
    go_wp2
    go_ret
    exact ⟨ret_int hx.out.symm, rfl⟩
  · have d1 : decide (1099511627776 < n) = false := by simpa using h
    have hx := hide (show capV n = n by unfold capV; omega)
    go_enter Tryz.func90, Tryz.ntmps90
    go_wp2_with fail
    refine (rmost_any _).mono ?_
    rintro e w' ⟨rfl, rfl⟩
    go_wp2
    go_ret
    exact ⟨ret_int hx.out.symm, rfl⟩

set_option maxHeartbeats 1000000 in
theorem rsaid_any (n : Int) (w : World) : Calls Tryz.prog 67 #[.int .i64 n] w (IntIs (withinV n) w) := by
  by_cases h : n < 0
  · have d1 : decide (n < 0) = true := by simpa using h
    have hx := hide (show withinV n = 0 by unfold withinV; omega)
    go_enter Tryz.func67, Tryz.ntmps67
    go_wp2
    go_ret
    exact ⟨ret_int hx.out.symm, rfl⟩
  · have d1 : decide (n < 0) = false := by simpa using h
    have hx := hide (show withinV n = capV n by rw [with_cap, if_neg h])
    go_enter Tryz.func67, Tryz.ntmps67
    go_wp2_with fail
    refine (rcap_any _ _).mono ?_
    rintro e w' ⟨rfl, rfl⟩
    go_wp2
    go_ret
    exact ⟨ret_int hx.out.symm, rfl⟩

set_option maxHeartbeats 1000000 in
theorem rsome_any (n : Int) (w : World) : Calls Tryz.prog 91 #[.int .i64 n] w (IntIs (swrV n) w) := by
  by_cases h : withinV n = 0
  · have d1 : (withinV n == 0) = true := by simpa using h
    have hx := hide (show swrV n = -1 by unfold swrV; rw [if_pos h])
    clear h
    go_enter Tryz.func91, Tryz.ntmps91
    go_wp2_with fail
    refine (rsaid_any _ _).mono ?_
    rintro e w' ⟨rfl, rfl⟩
    go_wp2
    go_ret
    exact ⟨ret_int hx.out.symm, rfl⟩
  · have d1 : (withinV n == 0) = false := by simpa using h
    have hx := hide (show swrV n = withinV n by unfold swrV; rw [if_neg h])
    clear h
    go_enter Tryz.func91, Tryz.ntmps91
    go_wp2_with fail
    refine (rsaid_any _ _).mono ?_
    rintro e w' ⟨rfl, rfl⟩
    go_wp2_with fail
    refine (rsaid_any _ _).mono ?_
    rintro e w' ⟨rfl, rfl⟩
    go_wp2
    go_ret
    exact ⟨ret_int hx.out.symm, rfl⟩

set_option maxRecDepth 100000 in
set_option maxHeartbeats 4000000 in
theorem rof_any (mt : ByteArray) (mk : Bool) (md ln hv fr wh er : Int) (kv : Value) (tn : ByteArray) (kp : Bool) (w : World) : Calls Tryz.prog 52 #[.agg #[.string mt, .bool mk, .int .i64 md, .int .i64 ln, .int .i64 hv, .int .i64 fr, .int .i64 wh, .int .i64 er, kv, .string tn, .bool kp]] w (AggIs (ofC fr wh er kp) w) := by
  go_enter Tryz.func52, Tryz.ntmps52
  go_upto_region 1 with fail
  obtain ⟨w1, hw1⟩ : ∃ w1 : World, w1 = ((w).alloc (.cells #[.string mt, .bool mk, .int .i64 md, .int .i64 ln, .int .i64 hv, .int .i64 fr, .int .i64 wh, .int .i64 er, kv, .string tn, .bool kp] 29)).alloc (.cells #[.int .i64 0, .int .i64 0, .int .i64 0, .int .i64 0, .bool false, .bool false, .bool false] 58) := ⟨_, rfl⟩
  rw [← hw1]
  have hB1 : Below w.heap.size w w1 := by rw [hw1]; exact (((Below.refl _ _).alloc (Nat.le_refl _) _).alloc (by simp; try omega) _)
  have T : Blk w1 (w.heap.size) 29 #[.string mt, .bool mk, .int .i64 md, .int .i64 ln, .int .i64 hv, .int .i64 fr, .int .i64 wh, .int .i64 er, kv, .string tn, .bool kp] := by rw [hw1]; exact ((Blk.new _ _ _).alloc _)
  have R : Blk w1 (w.heap.size + 1) 58 #[.int .i64 0, .int .i64 0, .int .i64 0, .int .i64 0, .bool false, .bool false, .bool false] := by rw [hw1]; exact (Blk.new' (by simp))
  clear hw1
  have cT := T.cell
  have cR := R.cell
  have k5 : w1.cell? ⟨w.heap.size, 5, none⟩ = some (.int .i64 fr) := T.cell 5
  have k6 : w1.cell? ⟨w.heap.size, 6, none⟩ = some (.int .i64 wh) := T.cell 6
  have k7 : w1.cell? ⟨w.heap.size, 7, none⟩ = some (.int .i64 er) := T.cell 7
  have k10 : w1.cell? ⟨w.heap.size, 10, none⟩ = some (.bool kp) := T.cell 10
  have HR := hide R
  have fR := R.frozen
  have HB := hide hB1
  clear cT T R hB1
  go_region_held3 (fun W => W.cell? ⟨w.heap.size, 5, none⟩ = some (.int .i64 fr) ∧ W.cell? ⟨w.heap.size, 6, none⟩ = some (.int .i64 wh) ∧ W.cell? ⟨w.heap.size, 7, none⟩ = some (.int .i64 er) ∧ W.cell? ⟨w.heap.size, 10, none⟩ = some (.bool kp)) (go_keep)
    (first | (go_at_call 67; refine (rsaid_any _ _).mono ?_; rintro e w8 ⟨rfl, rfl⟩) | (go_at_call 91; refine (rsome_any _ _).mono ?_; rintro e w8 ⟨rfl, rfl⟩))
  all_goals (go_wp2_with fail)
  all_goals exact bodyPost_ret (v := .agg (ofC fr wh er kp)) (by simp [results, Tryz.results52, go_sem, ofC, cR]) rfl ⟨rfl, Below.drew (by (iterate 7 (refine below_set ?_ (Nat.le_add_right _ _) _)); exact HB.out)⟩

end Go.Proofs.YtmelcndflllgmaaGreatDoor
namespace Go.Proofs.YtmelcndflllgmaaGreatDoor
open Go.RowKit
set_option linter.unusedVariables false
set_option linter.unusedSimpArgs false

/-- The last digit of a number. -/
def dg1 (n : Int) : UInt8 := UInt8.ofNat (48 + n % 10).toNat
theorem dg1_nat (n : Int) : ((dg1 n).toNat : Int) = 48 + n % 10 := by
  unfold dg1
  rw [UInt8.toNat_ofNat']
  have : (48 + n % 10).toNat % 256 = (48 + n % 10).toNat := Nat.mod_eq_of_lt (by omega)
  omega
theorem itoa_lt {n : Int} (h0 : 0 ≤ n) (h : n < 10) : Lib.itoa n = [dg1 n] := by
  obtain ⟨u, rfl⟩ := Int.eq_ofNat_of_zero_le h0
  rw [Lib.itoa_nonneg, Lib.decDigits, dif_pos (by omega)]
  unfold dg1
  rw [show (48 + (u : Int) % 10).toNat = 48 + u by omega]
theorem itoa_ge {n : Int} (h : 10 ≤ n) : Lib.itoa n = Lib.itoa (n / 10) ++ [dg1 n] := by
  obtain ⟨u, rfl⟩ := Int.eq_ofNat_of_zero_le (show 0 ≤ n by omega)
  rw [show ((u : Int) / 10) = ((u / 10 : Nat) : Int) by omega, Lib.itoa_nonneg, Lib.itoa_nonneg, Lib.decDigits, dif_neg (by omega)]
  unfold dg1
  rw [show (48 + (u : Int) % 10).toNat = 48 + u % 10 by omega]
theorem bapp (a b : List UInt8) : ((⟨a.toArray⟩ : ByteArray) ++ ⟨b.toArray⟩) = ⟨(a ++ b).toArray⟩ := by apply ByteArray.ext; simp [ByteArray.data_append]
theorem ret_str {a b : ByteArray} (h : a = b) : Ending.returned (.string a) = .returned (.string b) := by rw [h]
theorem dg1_mod (n : Int) : dg1 (n % 10) = dg1 n := by unfold dg1; rw [show n % 10 % 10 = n % 10 by omega]

set_option maxRecDepth 100000 in
set_option maxHeartbeats 2000000 in
theorem rnum_fuel : ∀ (k : Nat) (n : Int) (w : World), 0 ≤ n → n < k → n ≤ 9223372036854775807 → Calls Tryz.prog 89 #[.int .i64 n] w (StrIs (Lib.itoa n) w)
  | 0, n, w, h0, h, _ => absurd h (by omega)
  | k + 1, n, w, h0, h, hm => by
    by_cases h1 : n < 10
    · have d1 : decide (n < 10) = true := by simpa using h1
      have hx := hide (itoa_lt h0 h1)
      have hcv : ∀ W : World, (convert 100 9 (.slice (some ⟨W.heap.size, 0, none⟩) 1 1)).run Tryz.prog (W.alloc (.cells #[.int .u8 (48 + n)] 5)) = .ok (.string ⟨[dg1 n].toArray⟩) (W.alloc (.cells #[.int .u8 (48 + n)] 5)) := fun W => by
        refine run_convert_bytes_back _ _ _ _ _ 1 [dg1 n] Tryz.underlying100 Tryz.underlying5 Tryz.underlying9 ?_
        intro j hj
        obtain rfl : j = 0 := by simpa using hj
        have e : n % 10 = n := Int.emod_eq_of_lt h0 h1
        simp [dg1_nat, go_sem, Addr.add, e]
      go_enter Tryz.func89, Tryz.ntmps89
      go_wp2
      go_ret
      exact ⟨ret_str (by rw [hx.out]), (Below.refl _ _).alloc (Nat.le_refl _) _⟩
    · have d1 : decide (n < 10) = false := by simpa using h1
      have hx := hide (itoa_ge (n := n) (by omega))
      have hy := hide (itoa_lt (n := n % 10) (by omega) (by omega))
      have z1 : (Lib.itoa (n / 10)).length ≤ 21 := Lib.itoa_length_le _ (by omega) (by omega)
      have z2 : (Lib.itoa (n % 10)).length = 1 := by rw [hy.out]; rfl
      have hJ : ¬ 9223372036854775807 < (Lib.itoa (n / 10)).length + (Lib.itoa (n % 10)).length := by omega
      clear z1 z2
      go_enter Tryz.func89, Tryz.ntmps89
      go_wp2_with fail
      refine (rnum_fuel k (n / 10) _ (by omega) (by omega) (by omega)).mono ?_
      rintro e w1 ⟨rfl, hb1⟩
      go_wp2_with fail
      refine (rnum_fuel k (n % 10) _ (by omega) (by omega) (by omega)).mono ?_
      rintro e w2 ⟨rfl, hb2⟩
      go_wp2
      go_ret
      exact ⟨ret_str (by rw [bapp, hx.out, hy.out, dg1_mod]), hb1.trans (hb2.mono hb1.size)⟩

theorem rnum_any (n : Int) (w : World) (h0 : 0 ≤ n) (hm : n ≤ 9223372036854775807) : Calls Tryz.prog 89 #[.int .i64 n] w (StrIs (Lib.itoa n) w) := rnum_fuel (n.toNat + 1) n w h0 (by omega) hm

set_option maxRecDepth 100000 in
set_option maxHeartbeats 2000000 in
theorem rdigits_fuel : ∀ (k : Nat) (n : Int) (w : World), 0 ≤ n → n < k → n ≤ 9223372036854775807 → Calls Tryz.prog 53 #[.int .i64 n] w (StrIs (Lib.itoa n) w)
  | 0, n, w, h0, h, _ => absurd h (by omega)
  | k + 1, n, w, h0, h, hm => by
    have hcv : ∀ W : World, (convert 100 9 (.slice (some ⟨W.heap.size, 0, none⟩) 1 1)).run Tryz.prog (W.alloc (.cells #[.int .u8 (48 + n % 10)] 5)) = .ok (.string ⟨[dg1 n].toArray⟩) (W.alloc (.cells #[.int .u8 (48 + n % 10)] 5)) := fun W => by
      refine run_convert_bytes_back _ _ _ _ _ 1 [dg1 n] Tryz.underlying100 Tryz.underlying5 Tryz.underlying9 ?_
      intro j hj
      obtain rfl : j = 0 := by simpa using hj
      simp [dg1_nat, go_sem, Addr.add]
    by_cases h1 : n < 10
    · have d1 : decide (n < 10) = true := by simpa using h1
      have hx := hide (itoa_lt h0 h1)
      go_enter Tryz.func53, Tryz.ntmps53
      go_wp2
      go_ret
      exact ⟨ret_str (by rw [hx.out]), (Below.refl _ _).alloc (Nat.le_refl _) _⟩
    · have d1 : decide (n < 10) = false := by simpa using h1
      have hx := hide (itoa_ge (n := n) (by omega))
      have z1 : (Lib.itoa (n / 10)).length ≤ 21 := Lib.itoa_length_le _ (by omega) (by omega)
      have hJ : ¬ 9223372036854775807 < (Lib.itoa (n / 10)).length + 1 := by omega
      clear z1
      go_enter Tryz.func53, Tryz.ntmps53
      go_wp2_with fail
      refine (rdigits_fuel k (n / 10) _ (by omega) (by omega) (by omega)).mono ?_
      rintro e w1 ⟨rfl, hb1⟩
      go_wp2
      go_ret
      exact ⟨ret_str (by rw [hx.out]; exact bapp _ [dg1 n]), ((Below.refl _ _).alloc (Nat.le_refl _) _).trans (hb1.mono (by simp))⟩

theorem rdigits_any (n : Int) (w : World) (h0 : 0 ≤ n) (hm : n ≤ 9223372036854775807) : Calls Tryz.prog 53 #[.int .i64 n] w (StrIs (Lib.itoa n) w) := rdigits_fuel (n.toNat + 1) n w h0 (by omega) hm

end Go.Proofs.YtmelcndflllgmaaGreatDoor
namespace Go.Proofs.YtmelcndflllgmaaGreatDoor
open Go.RowKit
set_option linter.unusedVariables false
set_option linter.unusedSimpArgs false

/-- The first k of some texts, joined. -/
def joinTo (l : List (List UInt8)) (sep : List UInt8) (k : Nat) : List UInt8 := Lib.join (l.take k) sep
theorem join_snoc (xs : List (List UInt8)) (x sep : List UInt8) : Lib.join (xs ++ [x]) sep = if xs = [] then x else Lib.join xs sep ++ sep ++ x := by
  cases xs with
  | nil => simp [Lib.join_one]
  | cons y r =>
    rw [if_neg (by simp), List.cons_append, Lib.join_cons, Lib.join_cons]
    simp [Lib.joinTail]
theorem joinTo_succ {l : List (List UInt8)} {sep : List UInt8} {k : Nat} (h : k < l.length) : joinTo l sep (k + 1) = (if k = 0 then [] else joinTo l sep k ++ sep) ++ l[k] := by
  unfold joinTo
  rw [List.take_succ_eq_append_getElem h, join_snoc]
  by_cases hk : k = 0
  · subst hk; simp
  · rw [if_neg (by intro e; have := congrArg List.length e; rw [List.length_take] at this; simp only [List.length_nil] at this; omega), if_neg hk]
theorem joinTo_zero (l : List (List UInt8)) (sep : List UInt8) : joinTo l sep 0 = [] := by unfold joinTo; rw [List.take_zero]; rfl
theorem joinTo_all {l : List (List UInt8)} {sep : List UInt8} {k : Nat} (h : l.length ≤ k) : joinTo l sep k = Lib.join l sep := by unfold joinTo; rw [List.take_of_length_le h]
theorem joinTo_mono {l : List (List UInt8)} {sep : List UInt8} : ∀ (n k : Nat), (joinTo l sep k).length ≤ (joinTo l sep (k + n)).length
  | 0, k => Nat.le_refl _
  | n + 1, k => by
    refine Nat.le_trans (joinTo_mono n k) ?_
    rw [← Nat.add_assoc]
    rcases Nat.lt_or_ge (k + n) l.length with h | h
    · rw [joinTo_succ h]
      by_cases h0 : k + n = 0
      · have e : joinTo l sep (k + n) = [] := by rw [h0]; exact joinTo_zero l sep
        rw [e]; simp
      · rw [if_neg h0]; simp
    · rw [joinTo_all h, joinTo_all (by omega)]; omega
theorem joinTo_le {l : List (List UInt8)} {sep : List UInt8} {k : Nat} (h : k ≤ l.length) : (joinTo l sep k).length ≤ (Lib.join l sep).length := by
  have := joinTo_mono (l := l) (sep := sep) (l.length - k) k
  rw [show k + (l.length - k) = l.length by omega, joinTo_all (Nat.le_refl _)] at this
  exact this
theorem partN_one (name : List UInt8) (n : Int) : (partN name n).length ≤ 1 := by unfold partN; split <;> simp
theorem cap_in {n : Int} (h : 0 ≤ n) : 0 ≤ capV n ∧ capV n ≤ 9223372036854775807 := by unfold capV; omega

set_option maxRecDepth 100000 in
set_option maxHeartbeats 16000000 in
theorem rctl_text (mx sh wh er : Int) (ns nc pv : Bool) (w : World) (hmx : -9223372036854775808 ≤ mx ∧ mx ≤ 9223372036854775807) (hsh : -9223372036854775808 ≤ sh ∧ sh ≤ 9223372036854775807) (hwh : -9223372036854775808 ≤ wh ∧ wh ≤ 9223372036854775807) (her : -9223372036854775808 ≤ er ∧ er ≤ 9223372036854775807) :
    Calls Tryz.prog 51 #[.agg #[.int .i64 mx, .int .i64 sh, .int .i64 wh, .int .i64 er, .bool ns, .bool nc, .bool pv]] w (StrIs (ctlText mx sh wh er ns nc pv) w) := by
  have HLN := hide (ctl_len (ns := ns) (nc := nc) (pv := pv) hmx hsh hwh her)
  go_enter Tryz.func51, Tryz.ntmps51
  go_upto_region 2 with fail
  obtain ⟨w1, hw1⟩ : ∃ w1 : World, w1 = ((w).alloc (.cells #[.int .i64 mx, .int .i64 sh, .int .i64 wh, .int .i64 er, .bool ns, .bool nc, .bool pv] 58)).alloc (.cells #[] 9) := ⟨_, rfl⟩
  rw [← hw1]
  have hB : Below w.heap.size w w1 := by rw [hw1]; exact (((Below.refl _ _).alloc (Nat.le_refl _) _).alloc (by simp; try omega) _)
  have T : Blk w1 w.heap.size 58 #[.int .i64 mx, .int .i64 sh, .int .i64 wh, .int .i64 er, .bool ns, .bool nc, .bool pv] := by rw [hw1]; exact ((Blk.new _ _ _).alloc _)
  have O : OwnL LW w.heap.size w1 (.slice (some ⟨w.heap.size + 1, 0, none⟩) 0 0) [] := by
    rw [hw1]
    have := OwnL.made LW (w.alloc (.cells #[.int .i64 mx, .int .i64 sh, .int .i64 wh, .int .i64 er, .bool ns, .bool nc, .bool pv] 58)) #[] 0 w.heap.size (by simp) (by decide) rfl
    rwa [World.size_alloc] at this
  clear hw1
  have cT := T.cell
  have zB := hB.size
  obtain ⟨l0, hl0⟩ : ∃ x : List (List UInt8), x = [] := ⟨_, rfl⟩
  rw [← hl0] at O
  have n0 : l0.length ≤ 0 := by rw [hl0]; exact Nat.le_refl _
  have HE0 := hide hl0
  clear hl0
  go_upto_if 8 with fail
  go_cut [3] (fun v wx => OwnL LW w.heap.size wx v (l0 ++ flagN ns [110, 111, 45, 115, 116, 111, 114, 101]) ∧ Blk wx w.heap.size 58 #[.int .i64 mx, .int .i64 sh, .int .i64 wh, .int .i64 er, .bool ns, .bool nc, .bool pv] ∧ Below w.heap.size w wx)
  case first =>
    cases ns
    · go_wp2_with fail
      go_meet
      exact ⟨by rw [flagN_no, List.append_nil]; exact O, T, hB⟩
    · go_wp2_with (at_builtin; refine wpList_appL LW w (by rfl) (.tmp 9) (.tmp 10) _ _ (by rfl) rfl rfl w.heap.size _ _ (by rfl) (O.alloc _) (hB.alloc hB.size _) (by simp; omega) _ [[110, 111, 45, 115, 116, 111, 114, 101]] _ (by rfl) (RdL.one_ (Blk.new _ _ _) rfl) (by decide) (by show _ + 1 ≤ 1000000000; omega) ?_)
      intro v6 w6 O6 hB6 hg6 _
      have T6 := Blk.grown (T.alloc _) hg6 (O.not_blk T (by decide))
      clear cT
      go_wp2_with fail
      go_meet
      exact ⟨by rw [flagN_yes]; exact O6, T6, hB6⟩
  case rest =>
    obtain ⟨O, T, hB⟩ := hcut
    have cT := T.cell
    have zB := hB.size
    obtain ⟨l1, hl1⟩ : ∃ x, x = l0 ++ flagN ns [110, 111, 45, 115, 116, 111, 114, 101] := ⟨_, rfl⟩
    rw [← hl1] at O
    have n1 : l1.length ≤ 1 := by rw [hl1, List.length_append]; have c := flagN_len ns [110, 111, 45, 115, 116, 111, 114, 101]; omega
    have HE1 := hide hl1
    clear hl1
    go_upto_if 13 with fail
    go_cut [3] (fun v wx => OwnL LW w.heap.size wx v (l1 ++ flagN nc [110, 111, 45, 99, 97, 99, 104, 101]) ∧ Blk wx w.heap.size 58 #[.int .i64 mx, .int .i64 sh, .int .i64 wh, .int .i64 er, .bool ns, .bool nc, .bool pv] ∧ Below w.heap.size w wx)
    case first =>
      cases nc
      · go_wp2_with fail
        go_meet
        exact ⟨by rw [flagN_no, List.append_nil]; exact O, T, hB⟩
      · go_wp2_with (at_builtin; refine wpList_appL LW w (by rfl) (.tmp 14) (.tmp 15) _ _ (by rfl) rfl rfl w.heap.size _ _ (by rfl) (O.alloc _) (hB.alloc hB.size _) (by simp; omega) _ [[110, 111, 45, 99, 97, 99, 104, 101]] _ (by rfl) (RdL.one_ (Blk.new _ _ _) rfl) (by decide) (by show _ + 1 ≤ 1000000000; omega) ?_)
        intro v6 w6 O6 hB6 hg6 _
        have T6 := Blk.grown (T.alloc _) hg6 (O.not_blk T (by decide))
        clear cT
        go_wp2_with fail
        go_meet
        exact ⟨by rw [flagN_yes]; exact O6, T6, hB6⟩
    case rest =>
      obtain ⟨O, T, hB⟩ := hcut
      have cT := T.cell
      have zB := hB.size
      obtain ⟨l2, hl2⟩ : ∃ x, x = l1 ++ flagN nc [110, 111, 45, 99, 97, 99, 104, 101] := ⟨_, rfl⟩
      rw [← hl2] at O
      have n2 : l2.length ≤ 2 := by rw [hl2, List.length_append]; have c := flagN_len nc [110, 111, 45, 99, 97, 99, 104, 101]; omega
      have HE2 := hide hl2
      clear hl2
      go_upto_if 18 with fail
      go_cut [3] (fun v wx => OwnL LW w.heap.size wx v (l2 ++ flagN pv [112, 114, 105, 118, 97, 116, 101]) ∧ Blk wx w.heap.size 58 #[.int .i64 mx, .int .i64 sh, .int .i64 wh, .int .i64 er, .bool ns, .bool nc, .bool pv] ∧ Below w.heap.size w wx)
      case first =>
        cases pv
        · go_wp2_with fail
          go_meet
          exact ⟨by rw [flagN_no, List.append_nil]; exact O, T, hB⟩
        · go_wp2_with (at_builtin; refine wpList_appL LW w (by rfl) (.tmp 19) (.tmp 20) _ _ (by rfl) rfl rfl w.heap.size _ _ (by rfl) (O.alloc _) (hB.alloc hB.size _) (by simp; omega) _ [[112, 114, 105, 118, 97, 116, 101]] _ (by rfl) (RdL.one_ (Blk.new _ _ _) rfl) (by decide) (by show _ + 1 ≤ 1000000000; omega) ?_)
          intro v6 w6 O6 hB6 hg6 _
          have T6 := Blk.grown (T.alloc _) hg6 (O.not_blk T (by decide))
          clear cT
          go_wp2_with fail
          go_meet
          exact ⟨by rw [flagN_yes]; exact O6, T6, hB6⟩
      case rest =>
        obtain ⟨O, T, hB⟩ := hcut
        have cT := T.cell
        have zB := hB.size
        obtain ⟨l3, hl3⟩ : ∃ x, x = l2 ++ flagN pv [112, 114, 105, 118, 97, 116, 101] := ⟨_, rfl⟩
        rw [← hl3] at O
        have n3 : l3.length ≤ 3 := by rw [hl3, List.length_append]; have c := flagN_len pv [112, 114, 105, 118, 97, 116, 101]; omega
        have HE3 := hide hl3
        clear hl3
        go_upto_if 24 with fail
        go_cut [3] (fun v wx => OwnL LW w.heap.size wx v (l3 ++ partN [109, 97, 120, 45, 97, 103, 101] mx) ∧ Blk wx w.heap.size 58 #[.int .i64 mx, .int .i64 sh, .int .i64 wh, .int .i64 er, .bool ns, .bool nc, .bool pv] ∧ Below w.heap.size w wx)
        case first =>
          by_cases hn : 0 ≤ mx
          · have d1 : decide (0 ≤ mx) = true := by simpa using hn
            obtain ⟨ex, hex⟩ : ∃ x, x = (⟨#[109, 97, 120, 45, 97, 103, 101, 61]⟩ ++ ⟨(Lib.itoa (capV mx)).toArray⟩ : ByteArray).data.toList := ⟨_, rfl⟩
            have HP := hide (show partN [109, 97, 120, 45, 97, 103, 101] mx = [ex] by unfold partN; rw [if_pos hn, hex]; simp [ByteArray.data_append, capV])
            have HEX := hide hex
            clear hex
            have hci := cap_in hn
            have hi21 : (Lib.itoa (capV mx)).length ≤ 21 := Lib.itoa_length_le _ (by omega) (by omega)
            have hJ1 : ¬ 9223372036854775807 < 8 + (Lib.itoa (capV mx)).length := by omega
            have HCI := hide hci
            clear hi21 hci
            go_wp2_with fail
            refine (rcap_any mx _).mono ?_
            rintro e w' ⟨rfl, rfl⟩
            go_wp2_with fail
            refine (rnum_any (capV mx) _ HCI.out.1 HCI.out.2).mono ?_
            rintro e y1 ⟨rfl, hbc⟩
            replace O := O.below hbc (Nat.le_refl _)
            replace T := T.below hbc T.lt
            replace hB := hB.trans (hbc.mono hB.size)
            clear cT hbc
            have cT := T.cell
            have zB := hB.size
            go_wp2_with (at_builtin; refine wpList_appL LW w (by rfl) (.tmp 25) (.tmp 31) _ _ (by rfl) rfl rfl w.heap.size _ _ (by rfl) (O.alloc _) (hB.alloc hB.size _) (by simp; omega) _ [ex] _ (by rfl) (RdL.one_ (Blk.new _ _ _) (by rw [LWenc, HEX.out, bytes_str])) (by decide) (by show _ + 1 ≤ 1000000000; omega) ?_)
            intro v6 w6 O6 hB6 hg6 _
            have T6 := Blk.grown (T.alloc _) hg6 (O.not_blk T (by decide))
            clear cT
            go_wp2_with fail
            go_meet
            exact ⟨by rw [HP.out]; exact O6, T6, hB6⟩
          · have d1 : decide (0 ≤ mx) = false := by simpa using hn
            go_wp2_with fail
            go_meet
            exact ⟨by unfold partN; rw [if_neg (by omega), List.append_nil]; exact O, T, hB⟩
        case rest =>
          obtain ⟨O, T, hB⟩ := hcut
          have cT := T.cell
          have zB := hB.size
          obtain ⟨l4, hl4⟩ : ∃ x, x = l3 ++ partN [109, 97, 120, 45, 97, 103, 101] mx := ⟨_, rfl⟩
          rw [← hl4] at O
          have n4 : l4.length ≤ 4 := by rw [hl4, List.length_append]; have c := partN_one [109, 97, 120, 45, 97, 103, 101] mx; omega
          have HE4 := hide hl4
          clear hl4
          go_upto_if 35 with fail
          go_cut [3] (fun v wx => OwnL LW w.heap.size wx v (l4 ++ partN [115, 45, 109, 97, 120, 97, 103, 101] sh) ∧ Blk wx w.heap.size 58 #[.int .i64 mx, .int .i64 sh, .int .i64 wh, .int .i64 er, .bool ns, .bool nc, .bool pv] ∧ Below w.heap.size w wx)
          case first =>
            by_cases hn : 0 ≤ sh
            · have d1 : decide (0 ≤ sh) = true := by simpa using hn
              obtain ⟨ex, hex⟩ : ∃ x, x = (⟨#[115, 45, 109, 97, 120, 97, 103, 101, 61]⟩ ++ ⟨(Lib.itoa (capV sh)).toArray⟩ : ByteArray).data.toList := ⟨_, rfl⟩
              have HP := hide (show partN [115, 45, 109, 97, 120, 97, 103, 101] sh = [ex] by unfold partN; rw [if_pos hn, hex]; simp [ByteArray.data_append, capV])
              have HEX := hide hex
              clear hex
              have hci := cap_in hn
              have hi21 : (Lib.itoa (capV sh)).length ≤ 21 := Lib.itoa_length_le _ (by omega) (by omega)
              have hJ1 : ¬ 9223372036854775807 < 9 + (Lib.itoa (capV sh)).length := by omega
              have HCI := hide hci
              clear hi21 hci
              go_wp2_with fail
              refine (rcap_any sh _).mono ?_
              rintro e w' ⟨rfl, rfl⟩
              go_wp2_with fail
              refine (rnum_any (capV sh) _ HCI.out.1 HCI.out.2).mono ?_
              rintro e y1 ⟨rfl, hbc⟩
              replace O := O.below hbc (Nat.le_refl _)
              replace T := T.below hbc T.lt
              replace hB := hB.trans (hbc.mono hB.size)
              clear cT hbc
              have cT := T.cell
              have zB := hB.size
              go_wp2_with (at_builtin; refine wpList_appL LW w (by rfl) (.tmp 36) (.tmp 42) _ _ (by rfl) rfl rfl w.heap.size _ _ (by rfl) (O.alloc _) (hB.alloc hB.size _) (by simp; omega) _ [ex] _ (by rfl) (RdL.one_ (Blk.new _ _ _) (by rw [LWenc, HEX.out, bytes_str])) (by decide) (by show _ + 1 ≤ 1000000000; omega) ?_)
              intro v6 w6 O6 hB6 hg6 _
              have T6 := Blk.grown (T.alloc _) hg6 (O.not_blk T (by decide))
              clear cT
              go_wp2_with fail
              go_meet
              exact ⟨by rw [HP.out]; exact O6, T6, hB6⟩
            · have d1 : decide (0 ≤ sh) = false := by simpa using hn
              go_wp2_with fail
              go_meet
              exact ⟨by unfold partN; rw [if_neg (by omega), List.append_nil]; exact O, T, hB⟩
          case rest =>
            obtain ⟨O, T, hB⟩ := hcut
            have cT := T.cell
            have zB := hB.size
            obtain ⟨l5, hl5⟩ : ∃ x, x = l4 ++ partN [115, 45, 109, 97, 120, 97, 103, 101] sh := ⟨_, rfl⟩
            rw [← hl5] at O
            have n5 : l5.length ≤ 5 := by rw [hl5, List.length_append]; have c := partN_one [115, 45, 109, 97, 120, 97, 103, 101] sh; omega
            have HE5 := hide hl5
            clear hl5
            go_upto_if 46 with fail
            go_cut [3] (fun v wx => OwnL LW w.heap.size wx v (l5 ++ partN [115, 116, 97, 108, 101, 45, 119, 104, 105, 108, 101, 45, 114, 101, 118, 97, 108, 105, 100, 97, 116, 101] wh) ∧ Blk wx w.heap.size 58 #[.int .i64 mx, .int .i64 sh, .int .i64 wh, .int .i64 er, .bool ns, .bool nc, .bool pv] ∧ Below w.heap.size w wx)
            case first =>
              by_cases hn : 0 ≤ wh
              · have d1 : decide (0 ≤ wh) = true := by simpa using hn
                obtain ⟨ex, hex⟩ : ∃ x, x = (⟨#[115, 116, 97, 108, 101, 45, 119, 104, 105, 108, 101, 45, 114, 101, 118, 97, 108, 105, 100, 97, 116, 101, 61]⟩ ++ ⟨(Lib.itoa (capV wh)).toArray⟩ : ByteArray).data.toList := ⟨_, rfl⟩
                have HP := hide (show partN [115, 116, 97, 108, 101, 45, 119, 104, 105, 108, 101, 45, 114, 101, 118, 97, 108, 105, 100, 97, 116, 101] wh = [ex] by unfold partN; rw [if_pos hn, hex]; simp [ByteArray.data_append, capV])
                have HEX := hide hex
                clear hex
                have hci := cap_in hn
                have hi21 : (Lib.itoa (capV wh)).length ≤ 21 := Lib.itoa_length_le _ (by omega) (by omega)
                have hJ1 : ¬ 9223372036854775807 < 23 + (Lib.itoa (capV wh)).length := by omega
                have HCI := hide hci
                clear hi21 hci
                go_wp2_with fail
                refine (rcap_any wh _).mono ?_
                rintro e w' ⟨rfl, rfl⟩
                go_wp2_with fail
                refine (rnum_any (capV wh) _ HCI.out.1 HCI.out.2).mono ?_
                rintro e y1 ⟨rfl, hbc⟩
                replace O := O.below hbc (Nat.le_refl _)
                replace T := T.below hbc T.lt
                replace hB := hB.trans (hbc.mono hB.size)
                clear cT hbc
                have cT := T.cell
                have zB := hB.size
                go_wp2_with (at_builtin; refine wpList_appL LW w (by rfl) (.tmp 47) (.tmp 53) _ _ (by rfl) rfl rfl w.heap.size _ _ (by rfl) (O.alloc _) (hB.alloc hB.size _) (by simp; omega) _ [ex] _ (by rfl) (RdL.one_ (Blk.new _ _ _) (by rw [LWenc, HEX.out, bytes_str])) (by decide) (by show _ + 1 ≤ 1000000000; omega) ?_)
                intro v6 w6 O6 hB6 hg6 _
                have T6 := Blk.grown (T.alloc _) hg6 (O.not_blk T (by decide))
                clear cT
                go_wp2_with fail
                go_meet
                exact ⟨by rw [HP.out]; exact O6, T6, hB6⟩
              · have d1 : decide (0 ≤ wh) = false := by simpa using hn
                go_wp2_with fail
                go_meet
                exact ⟨by unfold partN; rw [if_neg (by omega), List.append_nil]; exact O, T, hB⟩
            case rest =>
              obtain ⟨O, T, hB⟩ := hcut
              have cT := T.cell
              have zB := hB.size
              obtain ⟨l6, hl6⟩ : ∃ x, x = l5 ++ partN [115, 116, 97, 108, 101, 45, 119, 104, 105, 108, 101, 45, 114, 101, 118, 97, 108, 105, 100, 97, 116, 101] wh := ⟨_, rfl⟩
              rw [← hl6] at O
              have n6 : l6.length ≤ 6 := by rw [hl6, List.length_append]; have c := partN_one [115, 116, 97, 108, 101, 45, 119, 104, 105, 108, 101, 45, 114, 101, 118, 97, 108, 105, 100, 97, 116, 101] wh; omega
              have HE6 := hide hl6
              clear hl6
              go_upto_if 57 with fail
              go_cut [3] (fun v wx => OwnL LW w.heap.size wx v (l6 ++ partN [115, 116, 97, 108, 101, 45, 105, 102, 45, 101, 114, 114, 111, 114] er) ∧ Blk wx w.heap.size 58 #[.int .i64 mx, .int .i64 sh, .int .i64 wh, .int .i64 er, .bool ns, .bool nc, .bool pv] ∧ Below w.heap.size w wx)
              case first =>
                by_cases hn : 0 ≤ er
                · have d1 : decide (0 ≤ er) = true := by simpa using hn
                  obtain ⟨ex, hex⟩ : ∃ x, x = (⟨#[115, 116, 97, 108, 101, 45, 105, 102, 45, 101, 114, 114, 111, 114, 61]⟩ ++ ⟨(Lib.itoa (capV er)).toArray⟩ : ByteArray).data.toList := ⟨_, rfl⟩
                  have HP := hide (show partN [115, 116, 97, 108, 101, 45, 105, 102, 45, 101, 114, 114, 111, 114] er = [ex] by unfold partN; rw [if_pos hn, hex]; simp [ByteArray.data_append, capV])
                  have HEX := hide hex
                  clear hex
                  have hci := cap_in hn
                  have hi21 : (Lib.itoa (capV er)).length ≤ 21 := Lib.itoa_length_le _ (by omega) (by omega)
                  have hJ1 : ¬ 9223372036854775807 < 15 + (Lib.itoa (capV er)).length := by omega
                  have HCI := hide hci
                  clear hi21 hci
                  go_wp2_with fail
                  refine (rcap_any er _).mono ?_
                  rintro e w' ⟨rfl, rfl⟩
                  go_wp2_with fail
                  refine (rnum_any (capV er) _ HCI.out.1 HCI.out.2).mono ?_
                  rintro e y1 ⟨rfl, hbc⟩
                  replace O := O.below hbc (Nat.le_refl _)
                  replace T := T.below hbc T.lt
                  replace hB := hB.trans (hbc.mono hB.size)
                  clear cT hbc
                  have cT := T.cell
                  have zB := hB.size
                  go_wp2_with (at_builtin; refine wpList_appL LW w (by rfl) (.tmp 58) (.tmp 64) _ _ (by rfl) rfl rfl w.heap.size _ _ (by rfl) (O.alloc _) (hB.alloc hB.size _) (by simp; omega) _ [ex] _ (by rfl) (RdL.one_ (Blk.new _ _ _) (by rw [LWenc, HEX.out, bytes_str])) (by decide) (by show _ + 1 ≤ 1000000000; omega) ?_)
                  intro v6 w6 O6 hB6 hg6 _
                  have T6 := Blk.grown (T.alloc _) hg6 (O.not_blk T (by decide))
                  clear cT
                  go_wp2_with fail
                  go_meet
                  exact ⟨by rw [HP.out]; exact O6, T6, hB6⟩
                · have d1 : decide (0 ≤ er) = false := by simpa using hn
                  go_wp2_with fail
                  go_meet
                  exact ⟨by unfold partN; rw [if_neg (by omega), List.append_nil]; exact O, T, hB⟩
              case rest =>
                obtain ⟨O, T, hB⟩ := hcut
                have cT := T.cell
                have zB := hB.size
                obtain ⟨l7, hl7⟩ : ∃ x, x = l6 ++ partN [115, 116, 97, 108, 101, 45, 105, 102, 45, 101, 114, 114, 111, 114] er := ⟨_, rfl⟩
                rw [← hl7] at O
                have n7 : l7.length ≤ 7 := by rw [hl7, List.length_append]; have c := partN_one [115, 116, 97, 108, 101, 45, 105, 102, 45, 101, 114, 114, 111, 114] er; omega
                have HE7 := hide hl7
                clear hl7
                have hlp : l7 = ctlParts mx sh wh er ns nc pv := by rw [HE7.out, HE6.out, HE5.out, HE4.out, HE3.out, HE2.out, HE1.out, HE0.out]; rfl
                obtain ⟨l, hl⟩ : ∃ l, l = l7 := ⟨_, rfl⟩
                rw [← hl] at O hlp
                have hle : Lib.join l [44, 32] = ctlText mx sh wh er ns nc pv := by rw [hlp]; rfl
                have hln : l.length ≤ 7 := by rw [hl]; exact n7
                have hbb : (Lib.join l [44, 32]).length ≤ 1000 := by rw [hle]; exact HLN.out.2
                have HE := hide hle
                clear hl hle hlp
                obtain ⟨A, c, rfl, _, _⟩ := O.rd.form
                have HC := hide O.rd.at_
                clear O
                go_wp2
                go_loop [4, 5] (fun s i => ∃ k : Nat, k ≤ l.length ∧ i = .int .i64 k ∧ s = .string ⟨(joinTo l [44, 32] k).toArray⟩) (fun _ i => l.length - (intOf i).toNat)
                case atStart => exact ⟨0, Nat.zero_le _, rfl, by rw [joinTo_zero]⟩
                case round =>
                  obtain ⟨k, hk, rfl, rfl⟩ := hrel
                  by_cases hlt : k < l.length
                  · obtain ⟨b, off, rfl, hbl, cc⟩ := HC.out k hlt
                    have c1 : wc.cell? ⟨b, off + k, none⟩ = some (.string ⟨(l[k]).toArray⟩) := by have := cc 0 _ rfl; simpa [LW] using this
                    clear cc
                    have hst := joinTo_succ (sep := [44, 32]) hlt
                    have hbd := joinTo_le (l := l) (sep := [44, 32]) (k := k + 1) hlt
                    by_cases hk0 : k = 0
                    · rw [if_pos hk0] at hst
                      have hz0 : joinTo l [44, 32] k = [] := by rw [hk0, joinTo_zero]
                      have dk : decide ((k : Int) > 0) = false := decide_eq_false (by omega)
                      have dk2 : decide (0 < k) = false := decide_eq_false (by omega)
                      have dk3 : ¬ 0 < k := by omega
                      have HS := hide (show (⟨(joinTo l [44, 32] k).toArray⟩ : ByteArray) ++ ⟨(l[k]).toArray⟩ = ⟨(joinTo l [44, 32] (k + 1)).toArray⟩ by rw [bapp, hst, hz0])
                      have hJ : ¬ 9223372036854775807 < (joinTo l [44, 32] k).length + (l[k]).length := by rw [hz0]; rw [hst] at hbd; simp at hbd ⊢; omega
                      have HK0 := hide hk0
                      clear hst hbd hz0 hk0
                      go_wp2
                      go_round
                      case rel => exact ⟨k + 1, by omega, by go_num, by rw [HS.out]⟩
                      case measure => simp [intOf]; omega
                    · rw [if_neg hk0] at hst
                      have dk : decide ((k : Int) > 0) = true := decide_eq_true (by omega)
                      have hJ0 : ¬ 9223372036854775807 < (joinTo l [44, 32] k).length + 2 := by rw [hst] at hbd; simp at hbd; omega
                      have hJ : ¬ 9223372036854775807 < (joinTo l [44, 32] k).length + 2 + (l[k]).length := by rw [hst] at hbd; simp at hbd; omega
                      have HS := hide (show ((⟨(joinTo l [44, 32] k).toArray⟩ : ByteArray) ++ ⟨#[44, 32]⟩) ++ ⟨(l[k]).toArray⟩ = ⟨(joinTo l [44, 32] (k + 1)).toArray⟩ by rw [hst, ← bapp, ← bapp])
                      clear hst hbd
                      go_wp2
                      go_round
                      case rel => exact ⟨k + 1, by omega, by go_num, by rw [HS.out]⟩
                      case measure => simp [intOf]; omega
                  · have HS := hide (joinTo_all (l := l) (sep := [44, 32]) (k := k) (by omega))
                    go_wp2
                    go_ret
                    exact ⟨ret_str (by rw [HS.out, HE.out]), hB⟩

end Go.Proofs.YtmelcndflllgmaaGreatDoor
