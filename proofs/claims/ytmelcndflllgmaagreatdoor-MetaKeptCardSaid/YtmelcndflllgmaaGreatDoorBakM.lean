/-
  What meta.Fields tells is read back: plain words.
-/
import Derived.Test.YtmelcndflllgmaaGreatDoorGrFr
import Derived.Test.YtmelcndflllgmaaGreatDoorFldC
import Derived.Test.YtmelcndflllgmaaGreatDoorCpN
import Derived.Test.YtmelcndflllgmaaGreatDoorGrS
namespace Go.Proofs.YtmelcndflllgmaaGreatDoor
open Go.RowKit
set_option linter.unusedVariables false
set_option linter.unusedSimpArgs false

theorem akEtCc : alikeB [69, 84, 97, 103] nmCc = false := by kernel_rfl
theorem akEtEt : alikeB [69, 84, 97, 103] nmEt = true := by kernel_rfl
theorem akEtLm : alikeB [69, 84, 97, 103] nmLm = false := by kernel_rfl
theorem akEtAg : alikeB [69, 84, 97, 103] nmAg = false := by kernel_rfl
theorem akEtSk : alikeB [69, 84, 97, 103] nmSk = false := by kernel_rfl
theorem akEtXt : alikeB [69, 84, 97, 103] nmXt = false := by kernel_rfl
theorem akEtXl : alikeB [69, 84, 97, 103] nmXl = false := by kernel_rfl
theorem akEtXh : alikeB [69, 84, 97, 103] nmXh = false := by kernel_rfl
theorem akLmCc : alikeB [76, 97, 115, 116, 45, 77, 111, 100, 105, 102, 105, 101, 100] nmCc = false := by kernel_rfl
theorem akLmEt : alikeB [76, 97, 115, 116, 45, 77, 111, 100, 105, 102, 105, 101, 100] nmEt = false := by kernel_rfl
theorem akLmLm : alikeB [76, 97, 115, 116, 45, 77, 111, 100, 105, 102, 105, 101, 100] nmLm = true := by kernel_rfl
theorem akLmAg : alikeB [76, 97, 115, 116, 45, 77, 111, 100, 105, 102, 105, 101, 100] nmAg = false := by kernel_rfl
theorem akLmSk : alikeB [76, 97, 115, 116, 45, 77, 111, 100, 105, 102, 105, 101, 100] nmSk = false := by kernel_rfl
theorem akLmXt : alikeB [76, 97, 115, 116, 45, 77, 111, 100, 105, 102, 105, 101, 100] nmXt = false := by kernel_rfl
theorem akLmXl : alikeB [76, 97, 115, 116, 45, 77, 111, 100, 105, 102, 105, 101, 100] nmXl = false := by kernel_rfl
theorem akLmXh : alikeB [76, 97, 115, 116, 45, 77, 111, 100, 105, 102, 105, 101, 100] nmXh = false := by kernel_rfl
theorem akCcCc : alikeB [67, 97, 99, 104, 101, 45, 67, 111, 110, 116, 114, 111, 108] nmCc = true := by kernel_rfl
theorem akCcEt : alikeB [67, 97, 99, 104, 101, 45, 67, 111, 110, 116, 114, 111, 108] nmEt = false := by kernel_rfl
theorem akCcLm : alikeB [67, 97, 99, 104, 101, 45, 67, 111, 110, 116, 114, 111, 108] nmLm = false := by kernel_rfl
theorem akCcAg : alikeB [67, 97, 99, 104, 101, 45, 67, 111, 110, 116, 114, 111, 108] nmAg = false := by kernel_rfl
theorem akCcSk : alikeB [67, 97, 99, 104, 101, 45, 67, 111, 110, 116, 114, 111, 108] nmSk = false := by kernel_rfl
theorem akCcXt : alikeB [67, 97, 99, 104, 101, 45, 67, 111, 110, 116, 114, 111, 108] nmXt = false := by kernel_rfl
theorem akCcXl : alikeB [67, 97, 99, 104, 101, 45, 67, 111, 110, 116, 114, 111, 108] nmXl = false := by kernel_rfl
theorem akCcXh : alikeB [67, 97, 99, 104, 101, 45, 67, 111, 110, 116, 114, 111, 108] nmXh = false := by kernel_rfl
theorem akAgCc : alikeB [65, 103, 101] nmCc = false := by kernel_rfl
theorem akAgEt : alikeB [65, 103, 101] nmEt = false := by kernel_rfl
theorem akAgLm : alikeB [65, 103, 101] nmLm = false := by kernel_rfl
theorem akAgAg : alikeB [65, 103, 101] nmAg = true := by kernel_rfl
theorem akAgSk : alikeB [65, 103, 101] nmSk = false := by kernel_rfl
theorem akAgXt : alikeB [65, 103, 101] nmXt = false := by kernel_rfl
theorem akAgXl : alikeB [65, 103, 101] nmXl = false := by kernel_rfl
theorem akAgXh : alikeB [65, 103, 101] nmXh = false := by kernel_rfl
theorem akSkCc : alikeB [83, 117, 114, 114, 111, 103, 97, 116, 101, 45, 75, 101, 121] nmCc = false := by kernel_rfl
theorem akSkEt : alikeB [83, 117, 114, 114, 111, 103, 97, 116, 101, 45, 75, 101, 121] nmEt = false := by kernel_rfl
theorem akSkLm : alikeB [83, 117, 114, 114, 111, 103, 97, 116, 101, 45, 75, 101, 121] nmLm = false := by kernel_rfl
theorem akSkAg : alikeB [83, 117, 114, 114, 111, 103, 97, 116, 101, 45, 75, 101, 121] nmAg = false := by kernel_rfl
theorem akSkSk : alikeB [83, 117, 114, 114, 111, 103, 97, 116, 101, 45, 75, 101, 121] nmSk = true := by kernel_rfl
theorem akSkXt : alikeB [83, 117, 114, 114, 111, 103, 97, 116, 101, 45, 75, 101, 121] nmXt = false := by kernel_rfl
theorem akSkXl : alikeB [83, 117, 114, 114, 111, 103, 97, 116, 101, 45, 75, 101, 121] nmXl = false := by kernel_rfl
theorem akSkXh : alikeB [83, 117, 114, 114, 111, 103, 97, 116, 101, 45, 75, 101, 121] nmXh = false := by kernel_rfl
theorem akXtCc : alikeB [88, 45, 84, 101, 110, 97, 110, 116] nmCc = false := by kernel_rfl
theorem akXtEt : alikeB [88, 45, 84, 101, 110, 97, 110, 116] nmEt = false := by kernel_rfl
theorem akXtLm : alikeB [88, 45, 84, 101, 110, 97, 110, 116] nmLm = false := by kernel_rfl
theorem akXtAg : alikeB [88, 45, 84, 101, 110, 97, 110, 116] nmAg = false := by kernel_rfl
theorem akXtSk : alikeB [88, 45, 84, 101, 110, 97, 110, 116] nmSk = false := by kernel_rfl
theorem akXtXt : alikeB [88, 45, 84, 101, 110, 97, 110, 116] nmXt = true := by kernel_rfl
theorem akXtXl : alikeB [88, 45, 84, 101, 110, 97, 110, 116] nmXl = false := by kernel_rfl
theorem akXtXh : alikeB [88, 45, 84, 101, 110, 97, 110, 116] nmXh = false := by kernel_rfl
theorem akXlCc : alikeB [88, 45, 76, 101, 110, 103, 116, 104] nmCc = false := by kernel_rfl
theorem akXlEt : alikeB [88, 45, 76, 101, 110, 103, 116, 104] nmEt = false := by kernel_rfl
theorem akXlLm : alikeB [88, 45, 76, 101, 110, 103, 116, 104] nmLm = false := by kernel_rfl
theorem akXlAg : alikeB [88, 45, 76, 101, 110, 103, 116, 104] nmAg = false := by kernel_rfl
theorem akXlSk : alikeB [88, 45, 76, 101, 110, 103, 116, 104] nmSk = false := by kernel_rfl
theorem akXlXt : alikeB [88, 45, 76, 101, 110, 103, 116, 104] nmXt = false := by kernel_rfl
theorem akXlXl : alikeB [88, 45, 76, 101, 110, 103, 116, 104] nmXl = true := by kernel_rfl
theorem akXlXh : alikeB [88, 45, 76, 101, 110, 103, 116, 104] nmXh = false := by kernel_rfl
theorem akXhCc : alikeB [88, 45, 72, 97, 118, 101] nmCc = false := by kernel_rfl
theorem akXhEt : alikeB [88, 45, 72, 97, 118, 101] nmEt = false := by kernel_rfl
theorem akXhLm : alikeB [88, 45, 72, 97, 118, 101] nmLm = false := by kernel_rfl
theorem akXhAg : alikeB [88, 45, 72, 97, 118, 101] nmAg = false := by kernel_rfl
theorem akXhSk : alikeB [88, 45, 72, 97, 118, 101] nmSk = false := by kernel_rfl
theorem akXhXt : alikeB [88, 45, 72, 97, 118, 101] nmXt = false := by kernel_rfl
theorem akXhXl : alikeB [88, 45, 72, 97, 118, 101] nmXl = false := by kernel_rfl
theorem akXhXh : alikeB [88, 45, 72, 97, 118, 101] nmXh = true := by kernel_rfl
theorem akXoCc : alikeB [88, 45, 79, 116, 104, 101, 114] nmCc = false := by kernel_rfl
theorem akXoEt : alikeB [88, 45, 79, 116, 104, 101, 114] nmEt = false := by kernel_rfl
theorem akXoLm : alikeB [88, 45, 79, 116, 104, 101, 114] nmLm = false := by kernel_rfl
theorem akXoAg : alikeB [88, 45, 79, 116, 104, 101, 114] nmAg = false := by kernel_rfl
theorem akXoSk : alikeB [88, 45, 79, 116, 104, 101, 114] nmSk = false := by kernel_rfl
theorem akXoXt : alikeB [88, 45, 79, 116, 104, 101, 114] nmXt = false := by kernel_rfl
theorem akXoXl : alikeB [88, 45, 79, 116, 104, 101, 114] nmXl = false := by kernel_rfl
theorem akXoXh : alikeB [88, 45, 79, 116, 104, 101, 114] nmXh = false := by kernel_rfl
theorem ofV_flag (b : Bool) (n v m : Bs) : ofV (flagF b (n, v)) m = if (b && alikeB n m) = true then [v] else [] := by
  cases b
  · rfl
  · show ofV [(n, v)] m = _
    rw [ofV_one]; simp
theorem ofV_lenF (ln hv : Int) (m : Bs) : ofV (lenF ln hv) m = if ln = -1 then (if alikeB [88, 45, 76, 101, 110, 103, 116, 104] m then [[42]] else []) ++ (if alikeB [88, 45, 72, 97, 118, 101] m then [Lib.itoa hv] else []) else (if alikeB [88, 45, 76, 101, 110, 103, 116, 104] m then [Lib.itoa ln] else []) := by
  unfold lenF
  split
  · rw [show [(([88, 45, 76, 101, 110, 103, 116, 104] : Bs), ([42] : Bs)), ([88, 45, 72, 97, 118, 101], Lib.itoa hv)] = [([88, 45, 76, 101, 110, 103, 116, 104], [42])] ++ [([88, 45, 72, 97, 118, 101], Lib.itoa hv)] from rfl, ofV_app, ofV_one, ofV_one]
  · rw [ofV_one]
theorem bkCc (mt : ByteArray) (mk : Bool) (md ln hv fr wh er : Int) (ks : List ByteArray) (tn : ByteArray) (kp : Bool) (age : Int) (dt : Bs) : ofV (fieldsF mt mk md ln hv fr wh er ks tn kp age dt) nmCc = [ctlText (-1) (withinV fr) (swrV wh) (swrV er) (!kp) false false] := by
  unfold fieldsF
  rw [List.nil_append, ofV_app, ofV_app, ofV_app, ofV_app, ofV_app, ofV_app, ofV_flag, ofV_flag, ofV_one, ofV_one, ofV_flag, ofV_flag, ofV_lenF, akEtCc, akLmCc, akCcCc, akAgCc, akSkCc, akXtCc, akXlCc, akXhCc]
  simp
theorem bkEt (mt : ByteArray) (mk : Bool) (md ln hv fr wh er : Int) (ks : List ByteArray) (tn : ByteArray) (kp : Bool) (age : Int) (dt : Bs) : ofV (fieldsF mt mk md ln hv fr wh er ks tn kp age dt) nmEt = (if someTag (mt, mk) = true then [textB (mt.data.toList, mk)] else []) := by
  unfold fieldsF
  rw [List.nil_append, ofV_app, ofV_app, ofV_app, ofV_app, ofV_app, ofV_app, ofV_flag, ofV_flag, ofV_one, ofV_one, ofV_flag, ofV_flag, ofV_lenF, akEtEt, akLmEt, akCcEt, akAgEt, akSkEt, akXtEt, akXlEt, akXhEt]
  simp
theorem bkLm (mt : ByteArray) (mk : Bool) (md ln hv fr wh er : Int) (ks : List ByteArray) (tn : ByteArray) (kp : Bool) (age : Int) (dt : Bs) : ofV (fieldsF mt mk md ln hv fr wh er ks tn kp age dt) nmLm = (if (md != -1) = true then [dt] else []) := by
  unfold fieldsF
  rw [List.nil_append, ofV_app, ofV_app, ofV_app, ofV_app, ofV_app, ofV_app, ofV_flag, ofV_flag, ofV_one, ofV_one, ofV_flag, ofV_flag, ofV_lenF, akEtLm, akLmLm, akCcLm, akAgLm, akSkLm, akXtLm, akXlLm, akXhLm]
  simp
theorem bkAg (mt : ByteArray) (mk : Bool) (md ln hv fr wh er : Int) (ks : List ByteArray) (tn : ByteArray) (kp : Bool) (age : Int) (dt : Bs) : ofV (fieldsF mt mk md ln hv fr wh er ks tn kp age dt) nmAg = [Lib.itoa age] := by
  unfold fieldsF
  rw [List.nil_append, ofV_app, ofV_app, ofV_app, ofV_app, ofV_app, ofV_app, ofV_flag, ofV_flag, ofV_one, ofV_one, ofV_flag, ofV_flag, ofV_lenF, akEtAg, akLmAg, akCcAg, akAgAg, akSkAg, akXtAg, akXlAg, akXhAg]
  simp
theorem bkSk (mt : ByteArray) (mk : Bool) (md ln hv fr wh er : Int) (ks : List ByteArray) (tn : ByteArray) (kp : Bool) (age : Int) (dt : Bs) : ofV (fieldsF mt mk md ln hv fr wh er ks tn kp age dt) nmSk = (if decide (0 < ks.length) = true then [Lib.join (ks.map (·.data.toList)) [32]] else []) := by
  unfold fieldsF
  rw [List.nil_append, ofV_app, ofV_app, ofV_app, ofV_app, ofV_app, ofV_app, ofV_flag, ofV_flag, ofV_one, ofV_one, ofV_flag, ofV_flag, ofV_lenF, akEtSk, akLmSk, akCcSk, akAgSk, akSkSk, akXtSk, akXlSk, akXhSk]
  simp
theorem bkXt (mt : ByteArray) (mk : Bool) (md ln hv fr wh er : Int) (ks : List ByteArray) (tn : ByteArray) (kp : Bool) (age : Int) (dt : Bs) : ofV (fieldsF mt mk md ln hv fr wh er ks tn kp age dt) nmXt = (if (!(tn.toList == [])) = true then [tn.data.toList] else []) := by
  unfold fieldsF
  rw [List.nil_append, ofV_app, ofV_app, ofV_app, ofV_app, ofV_app, ofV_app, ofV_flag, ofV_flag, ofV_one, ofV_one, ofV_flag, ofV_flag, ofV_lenF, akEtXt, akLmXt, akCcXt, akAgXt, akSkXt, akXtXt, akXlXt, akXhXt]
  simp
theorem bkXl (mt : ByteArray) (mk : Bool) (md ln hv fr wh er : Int) (ks : List ByteArray) (tn : ByteArray) (kp : Bool) (age : Int) (dt : Bs) : ofV (fieldsF mt mk md ln hv fr wh er ks tn kp age dt) nmXl = (if ln = -1 then [[42]] else [Lib.itoa ln]) := by
  unfold fieldsF
  rw [List.nil_append, ofV_app, ofV_app, ofV_app, ofV_app, ofV_app, ofV_app, ofV_flag, ofV_flag, ofV_one, ofV_one, ofV_flag, ofV_flag, ofV_lenF, akEtXl, akLmXl, akCcXl, akAgXl, akSkXl, akXtXl, akXlXl, akXhXl]
  simp
theorem bkXh (mt : ByteArray) (mk : Bool) (md ln hv fr wh er : Int) (ks : List ByteArray) (tn : ByteArray) (kp : Bool) (age : Int) (dt : Bs) : ofV (fieldsF mt mk md ln hv fr wh er ks tn kp age dt) nmXh = (if ln = -1 then [Lib.itoa hv] else []) := by
  unfold fieldsF
  rw [List.nil_append, ofV_app, ofV_app, ofV_app, ofV_app, ofV_app, ofV_app, ofV_flag, ofV_flag, ofV_one, ofV_one, ofV_flag, ofV_flag, ofV_lenF, akEtXh, akLmXh, akCcXh, akAgXh, akSkXh, akXtXh, akXlXh, akXhXh]
  simp
theorem dig_noblank {b : UInt8} (h : digB b = true) : blankB b = false := by
  unfold digB at h
  rw [decide_eq_true_eq] at h
  unfold blankB
  rw [Bool.or_eq_false_iff]
  constructor <;> rw [beq_eq_false_iff_ne] <;> (rintro rfl; revert h; decide)
theorem trim_noblank {l : Bs} (h : ∀ b ∈ l, blankB b = false) : trimB l = l :=
  trim_core ⟨fun b hb => h b (List.mem_of_mem_head? hb), fun b hb => h b (List.mem_of_mem_getLast? hb)⟩
theorem itoa_dig {n : Int} (h0 : 0 ≤ n) : (Lib.itoa n).all digB = true ∧ (Lib.itoa n).isEmpty = false := itoa_digs (n.toNat + 1) n h0 (by omega)
theorem age_back {n : Int} (h0 : 0 ≤ n) (h1 : n ≤ 1099511627776) : ageV (Lib.itoa n) = n := by
  unfold ageV
  rw [trim_noblank fun b hb => dig_noblank (List.all_eq_true.1 (itoa_dig h0).1 b hb), numV_itoa h0 h1]
theorem itoa_len : ∀ (k : Nat) (n : Int), 0 ≤ n → n < 10 ^ (k + 1) → (Lib.itoa n).length ≤ k + 1
  | 0, n, h0, h => by rw [itoa_lt h0 (by omega)]; simp
  | k + 1, n, h0, h => by
    by_cases h1 : n < 10
    · rw [itoa_lt h0 h1]; simp
    · rw [itoa_ge (by omega), List.length_append]
      have e : (10 : Int) ^ (k + 1 + 1) = 10 ^ (k + 1) * 10 := Int.pow_succ ..
      have := itoa_len k (n / 10) (by omega) (by omega)
      simp; omega
theorem itoa_head : ∀ (k : Nat) (n : Int), 1 ≤ n → n < k → (Lib.itoa n).head? ≠ some 48
  | 0, n, h0, h => absurd h (by omega)
  | k + 1, n, h0, h => by
    by_cases h1 : n < 10
    · rw [itoa_lt (by omega) h1]
      simp only [List.head?_cons]
      intro e
      have := dg1_nat n
      rw [Option.some.inj e] at this
      simp at this
      omega
    · rw [itoa_ge (by omega)]
      have h2 := itoa_head k (n / 10) (by omega) (by omega)
      have h3 := (itoa_dig (n := n / 10) (by omega)).2
      cases hl : Lib.itoa (n / 10) with
      | nil => rw [hl] at h3; simp at h3
      | cons a r => rw [hl] at h2; simpa using h2
theorem itoa_foldZ : ∀ (k : Nat) (n : Int), 0 ≤ n → n < k → (Lib.itoa n).foldl (fun n b => n * 10 + ((b.toNat : Int) - 48)) 0 = n
  | 0, n, h0, h => absurd h (by omega)
  | k + 1, n, h0, h => by
    have hd := dg1_nat n
    by_cases h1 : n < 10
    · rw [itoa_lt h0 h1]
      simp only [List.foldl_cons, List.foldl_nil]
      omega
    · rw [itoa_ge (by omega), List.foldl_append, itoa_foldZ k (n / 10) (by omega) (by omega)]
      simp only [List.foldl_cons, List.foldl_nil]
      omega
theorem num_back {n : Int} (h0 : 0 ≤ n) (h1 : n ≤ 1099511627776) : numZ (Lib.itoa n) = n := by
  have hd := itoa_dig h0
  have hl := itoa_len 13 n h0 (by omega)
  unfold numZ
  have h1l : 1 ≤ (Lib.itoa n).length := by
    cases h : Lib.itoa n with
    | nil => rw [h] at hd; simp at hd
    | cons a r => simp
  have h2l : ¬ ((Lib.itoa n).head? = some 48 ∧ 1 < (Lib.itoa n).length) := by
    rintro ⟨hh, hl2⟩
    by_cases h2 : n < 10
    · rw [itoa_lt h0 h2] at hl2; simp at hl2
    · exact itoa_head (n.toNat + 1) n (by omega) (by omega) hh
  rw [if_pos ⟨⟨h1l, by omega, h2l⟩, hd.1⟩, itoa_foldZ (n.toNat + 1) n h0 (by omega)]
theorem num_star {n : Int} (h0 : 0 ≤ n) : Lib.itoa n ≠ [42] := by
  intro e
  have := (itoa_dig h0).1
  rw [e] at this
  revert this; decide
theorem keepW_some' {x : Bs} (h : x ≠ []) : keepW x = [x] := by unfold keepW; rw [if_neg (by simpa using h)]
theorem words_run {x : Bs} : ∀ (cur r : Bs), (∀ b ∈ x, blankB b = false) → wordsR cur (x ++ r) = wordsR (cur ++ x) r := by
  induction x with
  | nil => intro cur r _; simp
  | cons a x ih =>
    intro cur r h
    rw [List.cons_append, wordsR, h a (by simp)]
    simp only [Bool.false_eq_true, if_false]
    rw [ih (cur ++ [a]) r (fun b hb => h b (by simp [hb]))]
    simp
theorem words_tail : ∀ (l : List Bs) (x : Bs), x ≠ [] → (∀ y ∈ l, y ≠ []) → (∀ y ∈ l, ∀ b ∈ y, blankB b = false) → wordsR x (Lib.joinTail [32] l) = x :: l
  | [], x, hx, _, _ => by show keepW x = _; rw [keepW_some' hx]
  | y :: l, x, hx, h1, h2 => by
    show wordsR x (32 :: (y ++ Lib.joinTail [32] l)) = _
    rw [wordsR, show blankB 32 = true from rfl, if_pos rfl, keepW_some' hx, words_run [] _ (h2 y (by simp)), List.nil_append, words_tail l y (h1 y (by simp)) (fun z hz => h1 z (by simp [hz])) (fun z hz => h2 z (by simp [hz]))]
    rfl
theorem words_join {l : List Bs} (h1 : ∀ y ∈ l, y ≠ []) (h2 : ∀ y ∈ l, ∀ b ∈ y, blankB b = false) : wordsB (Lib.join l [32]) = l := by
  cases l with
  | nil => rfl
  | cons x r =>
    rw [Lib.join_cons]
    unfold wordsB
    rw [words_run [] _ (h2 x (by simp)), List.nil_append, words_tail r x (h1 x (by simp)) (fun z hz => h1 z (by simp [hz])) (fun z hz => h2 z (by simp [hz]))]
theorem key_noblank {s : ByteArray} (h : keyOk s = true) : s.data.toList ≠ [] ∧ ∀ b ∈ s.data.toList, blankB b = false := by
  unfold keyOk at h
  simp only [Bool.and_eq_true, decide_eq_true_eq] at h
  constructor
  · intro e
    have := h.1.1
    rw [← lsize, e] at this
    simp at this
  · intro b hb
    have := List.all_eq_true.1 h.2 b hb
    unfold keyByte at this
    rw [decide_eq_true_eq] at this
    unfold blankB
    rw [Bool.or_eq_false_iff]
    constructor <;> rw [beq_eq_false_iff_ne] <;> (rintro rfl; revert this; decide)
theorem keysB_key {ks : List ByteArray} (h : keysB ks = true) : ∀ k ∈ ks, keyOk k = true := by
  unfold keysB at h
  simp only [Bool.and_eq_true, List.all_eq_true] at h
  intro k hk
  obtain ⟨i, hi, rfl⟩ := List.getElem_of_mem hk
  have := (h.2 i (by simpa using hi)).1
  rwa [getD_at ks i hi] at this
theorem bytes_eta (s : ByteArray) : (⟨s.data.toList.toArray⟩ : ByteArray) = s := by
  apply ByteArray.ext
  simp
theorem back_fresh {a : Int} (h0 : 0 ≤ a) (h1 : a ≤ 1099511627776) : freshV (clipV (-1)) (clipV (withinV a)) false = a := by unfold freshV clipV withinV; simp; omega
theorem back_while {a : Int} (h0 : 0 ≤ a) (h1 : a ≤ 1099511627776) : whileV (clipV (swrV a)) false = a := by
  unfold whileV clipV swrV withinV
  simp only [Bool.false_eq_true, if_false]
  split <;> split <;> omega
theorem back_keep (b : Bool) : keepV (!b) false = b := by cases b <;> rfl
/-- Fields that say for each name just what Fields tells. -/
def SaysF (l m : List FieldL) : Prop := ofV l nmCc = ofV m nmCc ∧ ofV l nmEt = ofV m nmEt ∧ ofV l nmLm = ofV m nmLm ∧ ofV l nmAg = ofV m nmAg ∧ ofV l nmSk = ofV m nmSk ∧ ofV l nmXt = ofV m nmXt ∧ ofV l nmXl = ofV m nmXl ∧ ofV l nmXh = ofV m nmXh
theorem SaysF.refl (l : List FieldL) : SaysF l l := ⟨rfl, rfl, rfl, rfl, rfl, rfl, rfl, rfl⟩
theorem ofV_others {l : List FieldL} {n : Bs} (h : ∀ f ∈ l, f.1 = [88, 45, 79, 116, 104, 101, 114]) (hn : alikeB [88, 45, 79, 116, 104, 101, 114] n = false) : ofV l n = [] := by
  unfold ofV
  rw [List.filter_eq_nil_iff.2 (fun f hf => by rw [h f hf, hn]; simp)]
  rfl
theorem SaysF.others {a b m : List FieldL} (ha : ∀ f ∈ a, f.1 = [88, 45, 79, 116, 104, 101, 114]) (hb : ∀ f ∈ b, f.1 = [88, 45, 79, 116, 104, 101, 114]) : SaysF (a ++ m ++ b) m := by
  refine ⟨?_, ?_, ?_, ?_, ?_, ?_, ?_, ?_⟩ <;> rw [ofV_app, ofV_app]
  · rw [ofV_others ha akXoCc, ofV_others hb akXoCc, List.nil_append, List.append_nil]
  · rw [ofV_others ha akXoEt, ofV_others hb akXoEt, List.nil_append, List.append_nil]
  · rw [ofV_others ha akXoLm, ofV_others hb akXoLm, List.nil_append, List.append_nil]
  · rw [ofV_others ha akXoAg, ofV_others hb akXoAg, List.nil_append, List.append_nil]
  · rw [ofV_others ha akXoSk, ofV_others hb akXoSk, List.nil_append, List.append_nil]
  · rw [ofV_others ha akXoXt, ofV_others hb akXoXt, List.nil_append, List.append_nil]
  · rw [ofV_others ha akXoXl, ofV_others hb akXoXl, List.nil_append, List.append_nil]
  · rw [ofV_others ha akXoXh, ofV_others hb akXoXh, List.nil_append, List.append_nil]
theorem MetaM.ok_of {mt : ByteArray} {mk : Bool} {md ln hv fr wh er : Int} {ks : List ByteArray} {tn : ByteArray} {kp : Bool} : (⟨(mt.data.toList, mk), md, ln, hv, fr, wh, er, ks.map (·.data.toList), tn.data.toList, kp⟩ : MetaM).ok = metaOk mt mk md ln hv fr wh er ks tn := by
  unfold MetaM.ok
  simp only [List.map_map]
  rw [bytes_eta, bytes_eta]
  congr 1
  conv => rhs; rw [← List.map_id ks]
  apply List.map_congr_left
  intro x _
  exact bytes_eta x
theorem meta_split {mt : ByteArray} {mk : Bool} {md ln hv fr wh er : Int} {ks : List ByteArray} {tn : ByteArray} (h : metaOk mt mk md ln hv fr wh er ks tn = true) :
    (someTag (mt, mk) = true → tagOk mt = true) ∧ numsOk md ln hv = true ∧ (tickOk fr = true ∧ tickOk wh = true ∧ tickOk er = true) ∧ keysB ks = true ∧ tenOk tn = true := by
  unfold metaOk at h
  simp only [Bool.and_eq_true, Bool.or_eq_true, Bool.not_eq_true'] at h
  obtain ⟨h1, h2, ⟨⟨h3, h4⟩, h5⟩, h6, h7⟩ := h
  exact ⟨fun hs => h1.resolve_left (by rw [hs]; simp), h2, ⟨h3, h4, h5⟩, h6, h7⟩
theorem meta_back {mt : ByteArray} {mk : Bool} {md ln hv fr wh er : Int} {ks : List ByteArray} {tn : ByteArray} {kp : Bool} {age : Int} {dt : Bs} {l : List FieldL} (h : metaOk mt mk md ln hv fr wh er ks tn = true) (ha0 : 0 ≤ age) (ha1 : age ≤ 1099511627776) (hd : md = -1 ∨ IsText md ⟨dt.toArray⟩)
    (hs : SaysF l (fieldsF mt mk md ln hv fr wh er ks tn kp age dt)) : FromIs l (some ((⟨(mt.data.toList, mk), md, ln, hv, fr, wh, er, ks.map (·.data.toList), tn.data.toList, kp⟩ : MetaM), age)) := by
  obtain ⟨htag, hnum, ⟨hfr, hwh, her⟩, hks, htn⟩ := meta_split h
  unfold numsOk at hnum
  unfold tickOk at hfr hwh her
  rw [decide_eq_true_eq] at hnum hfr hwh her
  obtain ⟨sCc, sEt, sLm, sAg, sSk, sXt, sXl, sXh⟩ := hs
  rw [bkCc] at sCc
  rw [bkEt] at sEt
  rw [bkLm] at sLm
  rw [bkAg] at sAg
  rw [bkSk] at sSk
  rw [bkXt] at sXt
  rw [bkXl] at sXl
  rw [bkXh] at sXh
  refine ⟨(mt.data.toList, mk), md, ln, hv, ?_, ?_, ?_, ?_, ?_, ?_, ?_⟩
  · unfold tagG getF
    rw [sEt]
    cases hst : someTag (mt, mk) with
    | true =>
      simp only [if_true, List.head?_cons]
      rw [parse_text (t := (mt.data.toList, mk)) (by rw [← tagOk_L]; exact htag hst)]
    | false =>
      simp only [Bool.false_eq_true, if_false, List.head?_nil]
      unfold someTag at hst
      simp only [Bool.or_eq_false_iff, Bool.not_eq_false', beq_iff_eq] at hst
      rw [ByteArray.toList_eq] at hst
      rw [hst.1, hst.2]
  · unfold DateG getF
    rw [sLm]
    by_cases hm : md = -1
    · subst hm; simp
    · rw [if_pos (by rw [bne, Bool.not_eq_true', beq_eq_false_iff_ne]; exact hm)]
      simp only [List.head?_cons]
      exact ⟨by omega, by omega, hd.resolve_left hm⟩
  · unfold ageG getF
    rw [sAg]
    simp only [List.head?_cons]
    rw [age_back ha0 ha1, if_neg (by omega)]
  · unfold lenG getF
    rw [sXl]
    by_cases hl : ln = -1
    · rw [if_pos hl]
      simp only [List.head?_cons, if_true]
      rw [hl]
    · rw [if_neg hl]
      simp only [List.head?_cons]
      rw [if_neg (num_star (by omega)), num_back (by omega) (by omega), if_neg (by omega)]
  · unfold haveG getF
    rw [sXh]
    by_cases hl : ln = -1
    · rw [if_pos hl]
      simp only [List.head?_cons]
      rw [num_back (by omega) (by omega), if_neg (by omega)]
    · rw [if_neg hl]
      simp only [List.head?_nil]
      congr 1
      omega
  · unfold metaG ruleG keysG tenG getF
    rw [sCc, sSk, sXt, reads_text, back_fresh hfr.1 hfr.2, back_while hwh.1 hwh.2, back_while her.1 her.2, back_keep]
    have e1 : (if decide (0 < ks.length) = true then [Lib.join (ks.map (·.data.toList)) [32]] else []).flatMap wordsB = ks.map (·.data.toList) := by
      have hw : wordsB (Lib.join (ks.map (·.data.toList)) [32]) = ks.map (·.data.toList) := words_join (fun y hy => by
        obtain ⟨k, hk, rfl⟩ := List.mem_map.1 hy
        exact (key_noblank (keysB_key hks k hk)).1) (fun y hy => by
        obtain ⟨k, hk, rfl⟩ := List.mem_map.1 hy
        exact (key_noblank (keysB_key hks k hk)).2)
      cases ks with
      | nil => rfl
      | cons a r =>
        rw [if_pos (by simp)]
        simp only [List.flatMap_cons, List.flatMap_nil, List.append_nil]
        exact hw
    have e2 : (if (!(tn.toList == [])) = true then [tn.data.toList] else []).head?.getD [] = tn.data.toList := by
      rw [ByteArray.toList_eq]
      cases hq : tn.data.toList <;> simp
    rw [e1, e2]
  · rw [MetaM.ok_of]; exact h

end Go.Proofs.YtmelcndflllgmaaGreatDoor
