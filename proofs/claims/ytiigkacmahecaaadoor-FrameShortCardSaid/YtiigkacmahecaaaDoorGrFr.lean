/-
  Merged: FrM, FrN, FrA.
-/
import Derived.Test.YtiigkacmahecaaaDoorGrFf
import Derived.Test.YtiigkacmahecaaaDoorGrCp
namespace Go.Proofs.YtiigkacmahecaaaDoor
open Go.RowKit
set_option linter.unusedVariables false
set_option linter.unusedSimpArgs false

/-- Behind a byte: is the text quoted? is the next byte escaped? -/
def qtQ (q n : Bool) (b : UInt8) : Bool := if n then q else if q && b == 92 then q else if b == 34 then !q else q
def qtN (q n : Bool) (b : UInt8) : Bool := !n && (q && b == 92)
/-- How many bytes the item has that begins here. -/
def endQ : Bool → Bool → Bs → Nat
  | _, _, [] => 0
  | q, n, b :: r => if b = 44 ∧ q = false then 0 else endQ (qtQ q n b) (qtN q n b) r + 1
/-- The items of a value, trimmed. -/
def itemsR : Bool → Bool → Bs → Bs → List Bs
  | _, _, cur, [] => [trimB cur]
  | q, n, cur, b :: r => if b = 44 ∧ q = false then trimB cur :: itemsR false n [] r else itemsR (qtQ q n b) (qtN q n b) (cur ++ [b]) r
/-- The items of values that are not empty. -/
def itemsV (vs : List Bs) : List Bs := vs.flatMap fun v => (itemsR false false [] v).filter fun x => !x.isEmpty
theorem itemsV_nil : itemsV [] = [] := rfl
theorem itemsV_app (a b : List Bs) : itemsV (a ++ b) = itemsV a ++ itemsV b := by unfold itemsV; rw [List.flatMap_append]
theorem itemsV_one (v : Bs) : itemsV [v] = (itemsR false false [] v).filter fun x => !x.isEmpty := by unfold itemsV; simp
theorem itemsV_step {vs : List Bs} {k : Nat} (h : k < vs.length) : itemsV (vs.take (k + 1)) = itemsV (vs.take k) ++ (itemsR false false [] vs[k]).filter fun x => !x.isEmpty := by
  rw [List.take_succ_eq_append_getElem h, itemsV_app, itemsV_one]
/-- An escape stands in quotes alone. -/
theorem st_inv {q n : Bool} (h : n = true → q = true) (b : UInt8) : qtN q n b = true → qtQ q n b = true := by
  unfold qtN qtQ
  cases n
  · cases q <;> simp
    intro e; simp [e]
  · simp
theorem endQ_le : ∀ (l : Bs) (q n : Bool), endQ q n l ≤ l.length
  | [], _, _ => Nat.zero_le _
  | b :: r, q, n => by
    unfold endQ
    split
    · exact Nat.zero_le _
    · have := endQ_le r (qtQ q n b) (qtN q n b)
      simp only [List.length_cons]; omega
/-- The first item, and the others. -/
theorem items_cut : ∀ (l : Bs) (q n : Bool) (cur : Bs), (n = true → q = true) →
    (endQ q n l = l.length → itemsR q n cur l = [trimB (cur ++ l)]) ∧
    (endQ q n l < l.length → itemsR q n cur l = trimB (cur ++ l.take (endQ q n l)) :: itemsR false false [] (l.drop (endQ q n l + 1)))
  | [], q, n, cur, _ => ⟨fun _ => by simp [itemsR], fun h => by simp [endQ] at h⟩
  | b :: r, q, n, cur, hn => by
    have ih := items_cut r (qtQ q n b) (qtN q n b) (cur ++ [b]) (st_inv hn b)
    by_cases hc : b = 44 ∧ q = false
    · have e0 : endQ q n (b :: r) = 0 := by unfold endQ; rw [if_pos hc]
      have hn0 : n = false := by
        cases n
        · rfl
        · have := hn rfl; rw [hc.2] at this; cases this
      refine ⟨fun h => by rw [e0] at h; simp at h, fun _ => ?_⟩
      have e1 : itemsR q n cur (b :: r) = trimB cur :: itemsR false n [] r := by rw [itemsR, if_pos hc]
      rw [e0, e1, hn0]
      simp
    · have e0 : endQ q n (b :: r) = endQ (qtQ q n b) (qtN q n b) r + 1 := by rw [endQ, if_neg hc]
      have e1 : itemsR q n cur (b :: r) = itemsR (qtQ q n b) (qtN q n b) (cur ++ [b]) r := by rw [itemsR, if_neg hc]
      rw [e0, e1]
      refine ⟨fun h => ?_, fun h => ?_⟩
      · rw [ih.1 (by simpa using h)]; simp
      · rw [ih.2 (by simpa using h)]; simp
theorem endQ_quote (q : Bool) (r : Bs) : endQ q false (34 :: r) = endQ (!q) false r + 1 := by
  rw [endQ, if_neg (by simp)]; cases q <;> rfl
theorem endQ_comma (r : Bs) : endQ false false (44 :: r) = 0 := by rw [endQ, if_pos ⟨rfl, rfl⟩]
theorem endQ_esc0 : endQ true false [92] = 1 := rfl
theorem endQ_esc (c : UInt8) (r : Bs) : endQ true false (92 :: c :: r) = endQ true false r + 2 := by
  rw [endQ, if_neg (by simp), show qtQ true false 92 = true from rfl, show qtN true false 92 = true from rfl, endQ, if_neg (by simp)]
  rfl
theorem endQ_other {q : Bool} {b : UInt8} (r : Bs) (h34 : b ≠ 34) (h92 : q = false ∨ b ≠ 92) (h44 : q = true ∨ b ≠ 44) : endQ q false (b :: r) = endQ q false r + 1 := by
  have hc : ¬ (b = 44 ∧ q = false) := fun h => by
    rcases h44 with h4 | h4
    · rw [h4] at h; cases h.2
    · exact h4 h.1
  have e1 : (q && b == 92) = false := by
    rcases h92 with h9 | h9
    · rw [h9]; rfl
    · rw [beq_eq_false_iff_ne.2 h9, Bool.and_false]
  rw [endQ, if_neg hc]
  unfold qtQ qtN
  rw [e1]
  simp [h34]
/-- Where the walk stands that looks for an item's end. -/
def AtE (l : Bs) (N k : Nat) (q : Bool) : Prop := (k ≤ l.length ∧ N = k + endQ q false (l.drop k)) ∨ (k = l.length + 1 ∧ N = l.length)
theorem AtE.start {l : Bs} {a : Nat} (h : a ≤ l.length) : AtE l (a + endQ false false (l.drop a)) a false := .inl ⟨h, rfl⟩
theorem AtE.le {l : Bs} {N k : Nat} {q : Bool} (h : AtE l N k q) : k ≤ l.length + 1 ∧ N ≤ l.length := by
  rcases h with ⟨h1, h2⟩ | ⟨h1, h2⟩
  · have := endQ_le (l.drop k) q false
    rw [List.length_drop] at this
    omega
  · omega
theorem AtE.low {l : Bs} {N k : Nat} {q : Bool} (h : AtE l N k q) (hk : k < l.length) : N = k + endQ q false (l[k] :: l.drop (k + 1)) := by
  rcases h with ⟨h1, h2⟩ | ⟨h1, h2⟩
  · rw [h2, List.drop_eq_getElem_cons hk]
  · omega
theorem AtE.quote {l : Bs} {N k : Nat} {q : Bool} (h : AtE l N k q) (hk : k < l.length) (hb : l[k] = 34) : AtE l N (k + 1) (!q) := by
  have := h.low hk
  rw [hb, endQ_quote] at this
  exact .inl ⟨by omega, by omega⟩
theorem AtE.comma {l : Bs} {N k : Nat} (h : AtE l N k false) (hk : k < l.length) (hb : l[k] = 44) : N = k := by
  have := h.low hk
  rw [hb, endQ_comma] at this
  omega
theorem AtE.esc {l : Bs} {N k : Nat} (h : AtE l N k true) (hk : k < l.length) (hb : l[k] = 92) : AtE l N (k + 2) true := by
  have := h.low hk
  rw [hb] at this
  by_cases h1 : k + 1 < l.length
  · rw [List.drop_eq_getElem_cons h1, endQ_esc, show k + 1 + 1 = k + 2 from rfl] at this
    exact .inl ⟨by omega, by omega⟩
  · rw [List.drop_of_length_le (by omega), endQ_esc0] at this
    exact .inr ⟨by omega, by omega⟩
theorem AtE.other {l : Bs} {N k : Nat} {q : Bool} (h : AtE l N k q) (hk : k < l.length) (h34 : l[k] ≠ 34) (h92 : q = false ∨ l[k] ≠ 92) (h44 : q = true ∨ l[k] ≠ 44) : AtE l N (k + 1) q := by
  have := h.low hk
  rw [endQ_other _ h34 h92 h44] at this
  exact .inl ⟨by omega, by omega⟩
theorem AtE.end_ {l : Bs} {N k : Nat} {q : Bool} (h : AtE l N k q) (hk : ¬ k < l.length) : N = l.length := by
  rcases h with ⟨h1, h2⟩ | ⟨h1, h2⟩
  · rw [List.drop_of_length_le (by omega)] at h2
    simp [endQ] at h2
    omega
  · exact h2
/-- The items from a place on. -/
def itemsAt (s : Bs) (k : Nat) : List Bs := (itemsR false false [] (s.drop k)).filter fun x => !x.isEmpty
theorem itemsAt_zero (s : Bs) : itemsAt s 0 = (itemsR false false [] s).filter fun x => !x.isEmpty := rfl
def keepV (x : Bs) : List Bs := if x.isEmpty then [] else [x]
theorem keep_filter (x : Bs) (l : List Bs) : (x :: l).filter (fun x => !x.isEmpty) = keepV x ++ l.filter fun x => !x.isEmpty := by
  unfold keepV; cases hx : x.isEmpty <;> simp [hx]
theorem itemsAt_last {s : Bs} {k : Nat} (h : endQ false false (s.drop k) = (s.drop k).length) : itemsAt s k = keepV (trimB (s.drop k)) := by
  unfold itemsAt
  rw [(items_cut (s.drop k) false false [] (by simp)).1 h, List.nil_append, keep_filter]; simp
theorem itemsAt_more {s : Bs} {k : Nat} (h : endQ false false (s.drop k) < (s.drop k).length) : itemsAt s k = keepV (trimB ((s.drop k).take (endQ false false (s.drop k)))) ++ itemsAt s (k + endQ false false (s.drop k) + 1) := by
  unfold itemsAt
  rw [(items_cut (s.drop k) false false [] (by simp)).2 h, List.nil_append, keep_filter, List.drop_drop]
  congr 4
theorem itemsR_len : ∀ (l : Bs) (q n : Bool) (cur : Bs), (itemsR q n cur l).length ≤ l.length + 1
  | [], _, _, _ => by simp [itemsR]
  | b :: r, q, n, cur => by
    unfold itemsR
    split
    · have := itemsR_len r false n []
      simp only [List.length_cons]; omega
    · have := itemsR_len r (qtQ q n b) (qtN q n b) (cur ++ [b])
      simp only [List.length_cons]; omega
theorem itemsV_lenM (M : Nat) : ∀ (vs : List Bs), (∀ x ∈ vs, x.length ≤ M) → (itemsV vs).length ≤ vs.length * (M + 1)
  | [], _ => by simp [itemsV]
  | v :: r, h => by
    have h1 := itemsV_lenM M r (fun x hx => h x (by simp [hx]))
    have h2 := itemsR_len v false false []
    have h3 : ((itemsR false false [] v).filter fun x => !x.isEmpty).length ≤ (itemsR false false [] v).length := List.length_filter_le _ _
    have h4 := h v (by simp)
    rw [show v :: r = [v] ++ r from rfl, itemsV_app, itemsV_one, List.length_append, List.length_append, List.length_singleton, Nat.add_mul]
    omega
/-- The number of some digits; -1: it is none. -/
def decB (l : Bs) : Int := l.foldl (fun n b => n * 10 + ((b.toNat : Int) - 48)) 0
def numD (l : Bs) : Int := if (1 ≤ l.length ∧ l.length ≤ 18) ∧ l.all digB = true then decB l else -1
theorem decB_bd : ∀ (l : Bs) (n : Int) (m : Nat), l.all digB = true → 0 ≤ n → n < 10 ^ m → 0 ≤ l.foldl (fun n b => n * 10 + ((b.toNat : Int) - 48)) n ∧ l.foldl (fun n b => n * 10 + ((b.toNat : Int) - 48)) n < 10 ^ (m + l.length)
  | [], n, m, _, h0, h1 => ⟨h0, h1⟩
  | b :: r, n, m, h, h0, h1 => by
    simp only [List.all_cons, Bool.and_eq_true] at h
    have hb := h.1
    unfold digB at hb
    rw [decide_eq_true_eq] at hb
    have := decB_bd r (n * 10 + ((b.toNat : Int) - 48)) (m + 1) h.2 (by omega) (by rw [Int.pow_succ]; omega)
    rw [List.foldl_cons, List.length_cons, show m + (r.length + 1) = m + 1 + r.length by omega]
    exact this
theorem decB_app (l : Bs) (b : UInt8) : decB (l ++ [b]) = decB l * 10 + ((b.toNat : Int) - 48) := by unfold decB; rw [List.foldl_append]; rfl
theorem decB_lt17 {l : Bs} (h : l.all digB = true) (hl : l.length ≤ 17) : 0 ≤ decB l ∧ decB l < 100000000000000000 := by
  have := decB_bd l 0 0 h (by omega) (by decide)
  have h2 : (10 : Int) ^ (0 + l.length) ≤ 10 ^ 17 := by
    have : 0 + l.length ≤ 17 := by omega
    exact_mod_cast Nat.pow_le_pow_right (by omega) this
  have h3 : (10 : Int) ^ 17 = 100000000000000000 := by decide
  unfold decB
  omega
theorem numD_yes {l : Bs} (h : (1 ≤ l.length ∧ l.length ≤ 18) ∧ l.all digB = true) : numD l = decB l ∧ 0 ≤ decB l := by
  refine ⟨if_pos h, ?_⟩
  have := decB_bd l 0 0 h.2 (by omega) (by decide)
  exact this.1
theorem numD_no {l : Bs} (h : ¬ ((1 ≤ l.length ∧ l.length ≤ 18) ∧ l.all digB = true)) : numD l = -1 := if_neg h
theorem numD_bd (l : Bs) : -1 ≤ numD l ∧ numD l < 1000000000000000000 := by
  unfold numD
  split
  · rename_i h
    have := decB_bd l 0 0 h.2 (by omega) (by decide)
    have h2 : (10 : Int) ^ (0 + l.length) ≤ 10 ^ 18 := by
      have : 0 + l.length ≤ 18 := by omega
      exact_mod_cast Nat.pow_le_pow_right (by omega) this
    have h3 : (10 : Int) ^ 18 = 1000000000000000000 := by decide
    unfold decB
    omega
  · omega
/-- How a body ends: its kind, its size, an error. -/
structure EndM where
  k : Int
  n : Int
  e : Int
def wChunked : Bs := [99, 104, 117, 110, 107, 101, 100]
def oneSize : List Bs → Int
  | [] => -1
  | x :: r => if r.all (fun y => numD y == numD x) = true then numD x else -1
def endM (none : Bool) (te cl : List Bs) : EndM :=
  if none = true then ⟨4, 0, 0⟩
  else if (itemsV te).isEmpty = false then (if (itemsV te).length = 1 ∧ (itemsV te).all (fun x => alikeB x wChunked) = true ∧ cl.isEmpty = true then ⟨2, 0, 0⟩ else ⟨0, 0, 2⟩)
  else if cl.isEmpty = true then ⟨3, 0, 0⟩
  else if 0 ≤ oneSize (itemsV cl) ∧ oneSize (itemsV cl) ≤ 1099511627776 then ⟨1, oneSize (itemsV cl), 0⟩ else ⟨0, 0, 2⟩

end Go.Proofs.YtiigkacmahecaaaDoor
namespace Go.Proofs.YtiigkacmahecaaaDoor
open Go.RowKit
set_option linter.unusedVariables false
set_option linter.unusedSimpArgs false

/-- A number's answer: the program's, the reference's. -/
def NumFOk (l : Bs) (w : World) (e : Ending) (w' : World) : Prop := e = .returned (.tuple #[.int .i64 (if numD l = -1 then 0 else numD l), .bool (decide (numD l ≠ -1))]) ∧ w = w'
def NumROk (l : Bs) (w : World) (e : Ending) (w' : World) : Prop := e = .returned (.int .i64 (numD l)) ∧ w = w'
theorem ret_numF {l : Bs} {a : Int} {c : Bool} (h : (numD l = -1 ∧ a = 0 ∧ c = false) ∨ (numD l = a ∧ 0 ≤ a ∧ c = true)) : Ending.returned (.tuple #[.int .i64 a, .bool c]) = .returned (.tuple #[.int .i64 (if numD l = -1 then 0 else numD l), .bool (decide (numD l ≠ -1))]) := by
  rcases h with ⟨h1, h2, h3⟩ | ⟨h1, h2, h3⟩
  · rw [h1, h2, h3]; rfl
  · have : numD l ≠ -1 := by omega
    rw [if_neg this, h1, h3, decide_eq_true (by omega)]
theorem ret_numR {l : Bs} {a : Int} (h : a = numD l) : Ending.returned (.int .i64 a) = .returned (.int .i64 (numD l)) := by rw [h]

set_option maxRecDepth 100000 in
set_option maxHeartbeats 4000000 in
theorem fnumber_any (s : ByteArray) (w : World) (hs : s.size ≤ 9223372036854775807) : Calls Tryd.prog 31 #[.string s] w (NumFOk s.data.toList w) := by
  by_cases h0 : s.size = 0
  · have dz : decide ((s.size : Int) < 1) = true := decide_eq_true (by omega)
    have HS := hide (numD_no (l := s.data.toList) (fun hh => by have := hh.1.1; rw [lsize] at this; omega))
    go_enter Tryd.func31, Tryd.ntmps31
    go_wp2
    go_ret2
    exact ⟨ret_numF (.inl ⟨HS.out, rfl, rfl⟩), rfl⟩
  · have dz : decide ((s.size : Int) < 1) = false := decide_eq_false (by omega)
    by_cases h18 : 18 < s.size
    · have d18 : decide ((s.size : Int) > 18) = true := decide_eq_true (by omega)
      have HS := hide (numD_no (l := s.data.toList) (fun hh => by have := hh.1.2; rw [lsize] at this; omega))
      go_enter Tryd.func31, Tryd.ntmps31
      go_wp2
      go_ret2
      exact ⟨ret_numF (.inl ⟨HS.out, rfl, rfl⟩), rfl⟩
    · have d18 : decide ((s.size : Int) > 18) = false := decide_eq_false (by omega)
      have HC := hide (show 1 ≤ s.data.toList.length ∧ s.data.toList.length ≤ 18 by rw [lsize]; exact ⟨by omega, by omega⟩)
      go_enter Tryd.func31, Tryd.ntmps31
      go_wp2
      go_loop [4, 5, 16] (fun n j i => ∃ k : Nat, k ≤ s.size ∧ i = .int .i64 k ∧ n = .int .i64 (decB (s.data.toList.take k)) ∧ Hid ((s.data.toList.take k).all digB = true)) (fun _ _ i => s.size - (intOf i).toNat)
      case atStart => exact ⟨0, Nat.zero_le _, rfl, rfl, rfl⟩
      case round =>
        obtain ⟨k, hk, rfl, rfl, HA⟩ := hrel
        by_cases hlt : k < s.size
        · obtain ⟨n, hn⟩ : ∃ n, n = decB (s.data.toList.take k) := ⟨_, rfl⟩
          have hbd := decB_lt17 HA.out (by rw [List.length_take, lsize]; omega)
          rw [← hn] at hbd ⊢
          obtain ⟨hb0, hb1⟩ := hbd
          have HN := hide hn
          clear hn
          by_cases h1 : (s[k].toNat : Int) < 48
          · have d1 : decide ((s[k].toNat : Int) < 48) = true := decide_eq_true h1
            have HS := hide (numD_no (l := s.data.toList) (fun hh => by have := all_no digB s k hlt (by unfold digB; rw [decide_eq_false_iff_not]; omega); rw [hh.2] at this; cases this))
            go_wp2
            go_ret2
            exact ⟨ret_numF (.inl ⟨HS.out, rfl, rfl⟩), rfl⟩
          · have d1 : decide ((s[k].toNat : Int) < 48) = false := decide_eq_false h1
            by_cases h2 : 57 < (s[k].toNat : Int)
            · have d2 : decide ((s[k].toNat : Int) > 57) = true := decide_eq_true h2
              have HS := hide (numD_no (l := s.data.toList) (fun hh => by have := all_no digB s k hlt (by unfold digB; rw [decide_eq_false_iff_not]; omega); rw [hh.2] at this; cases this))
              go_wp2
              go_ret2
              exact ⟨ret_numF (.inl ⟨HS.out, rfl, rfl⟩), rfl⟩
            · have d2 : decide ((s[k].toNat : Int) > 57) = false := decide_eq_false h2
              have HS := hide (all_stepD hlt HA.out (by unfold digB; rw [decide_eq_true_eq]; omega))
              have HF := hide (show decB (s.data.toList.take (k + 1)) = n * 10 + ((s[k].toNat : Int) - 48) by rw [take_snocS s k hlt, decB_app, ← HN.out])
              go_wp2
              go_round
              case rel => exact ⟨k + 1, by omega, by go_num, (by rw [HF.out]; try exact congrArg _ (by omega)), HS⟩
              case measure => simp [intOf]; omega
        · have hx : (s.data.toList.take k) = s.data.toList := List.take_of_length_le (by rw [lsize]; omega)
          rw [hx] at HA
          rw [hx]
          have HS := hide (numD_yes ⟨HC.out, HA.out⟩)
          obtain ⟨n, hn⟩ : ∃ n, n = decB s.data.toList := ⟨_, rfl⟩
          rw [← hn] at HS ⊢
          clear hx hn
          go_wp2
          go_ret2
          exact ⟨ret_numF (.inr ⟨HS.out.1, HS.out.2, rfl⟩), rfl⟩

set_option maxRecDepth 100000 in
set_option maxHeartbeats 4000000 in
theorem rnumber_any (s : ByteArray) (w : World) (hs : s.size ≤ 9223372036854775807) : Calls Tryd.prog 35 #[.string s] w (NumROk s.data.toList w) := by
  by_cases h0 : s.size = 0
  · have dz : decide ((s.size : Int) < 1) = true := decide_eq_true (by omega)
    have HS := hide (numD_no (l := s.data.toList) (fun hh => by have := hh.1.1; rw [lsize] at this; omega))
    go_enter Tryd.func35, Tryd.ntmps35
    go_wp2
    go_ret
    exact ⟨ret_numR HS.out.symm, rfl⟩
  · have dz : decide ((s.size : Int) < 1) = false := decide_eq_false (by omega)
    by_cases h18 : 18 < s.size
    · have d18 : decide ((s.size : Int) > 18) = true := decide_eq_true (by omega)
      have HS := hide (numD_no (l := s.data.toList) (fun hh => by have := hh.1.2; rw [lsize] at this; omega))
      go_enter Tryd.func35, Tryd.ntmps35
      go_wp2
      go_ret
      exact ⟨ret_numR HS.out.symm, rfl⟩
    · have d18 : decide ((s.size : Int) > 18) = false := decide_eq_false (by omega)
      have HC := hide (show 1 ≤ s.data.toList.length ∧ s.data.toList.length ≤ 18 by rw [lsize]; exact ⟨by omega, by omega⟩)
      go_enter Tryd.func35, Tryd.ntmps35
      go_wp2
      go_loop [3, 4] (fun n i => ∃ k : Nat, k ≤ s.size ∧ i = .int .i64 k ∧ n = .int .i64 (decB (s.data.toList.take k)) ∧ Hid ((s.data.toList.take k).all digB = true)) (fun _ i => s.size - (intOf i).toNat)
      case atStart => exact ⟨0, Nat.zero_le _, rfl, rfl, rfl⟩
      case round =>
        obtain ⟨k, hk, rfl, rfl, HA⟩ := hrel
        by_cases hlt : k < s.size
        · obtain ⟨n, hn⟩ : ∃ n, n = decB (s.data.toList.take k) := ⟨_, rfl⟩
          have hbd := decB_lt17 HA.out (by rw [List.length_take, lsize]; omega)
          rw [← hn] at hbd ⊢
          obtain ⟨hb0, hb1⟩ := hbd
          have HN := hide hn
          clear hn
          by_cases h1 : (s[k].toNat : Int) < 48
          · have d1 : decide ((s[k].toNat : Int) < 48) = true := decide_eq_true h1
            have HS := hide (numD_no (l := s.data.toList) (fun hh => by have := all_no digB s k hlt (by unfold digB; rw [decide_eq_false_iff_not]; omega); rw [hh.2] at this; cases this))
            go_wp2
            go_ret
            exact ⟨ret_numR HS.out.symm, rfl⟩
          · have d1 : decide ((s[k].toNat : Int) < 48) = false := decide_eq_false h1
            by_cases h2 : 57 < (s[k].toNat : Int)
            · have d2 : decide ((s[k].toNat : Int) > 57) = true := decide_eq_true h2
              have HS := hide (numD_no (l := s.data.toList) (fun hh => by have := all_no digB s k hlt (by unfold digB; rw [decide_eq_false_iff_not]; omega); rw [hh.2] at this; cases this))
              go_wp2
              go_ret
              exact ⟨ret_numR HS.out.symm, rfl⟩
            · have d2 : decide ((s[k].toNat : Int) > 57) = false := decide_eq_false h2
              have HS := hide (all_stepD hlt HA.out (by unfold digB; rw [decide_eq_true_eq]; omega))
              have HF := hide (show decB (s.data.toList.take (k + 1)) = n * 10 + ((s[k].toNat : Int) - 48) by rw [take_snocS s k hlt, decB_app, ← HN.out])
              go_wp2
              go_round
              case rel => exact ⟨k + 1, by omega, by go_num, (by rw [HF.out]; try exact congrArg _ (by omega)), HS⟩
              case measure => simp [intOf]; omega
        · have hx : (s.data.toList.take k) = s.data.toList := List.take_of_length_le (by rw [lsize]; omega)
          rw [hx] at HA
          rw [hx]
          have HS := hide (numD_yes ⟨HC.out, HA.out⟩)
          obtain ⟨n, hn⟩ : ∃ n, n = decB s.data.toList := ⟨_, rfl⟩
          rw [← hn] at HS ⊢
          clear hx hn
          go_wp2
          go_ret
          exact ⟨ret_numR HS.out.1.symm, rfl⟩

end Go.Proofs.YtiigkacmahecaaaDoor
namespace Go.Proofs.YtiigkacmahecaaaDoor
open Go.RowKit
set_option linter.unusedVariables false
set_option linter.unusedSimpArgs false

set_option maxRecDepth 100000 in
set_option maxHeartbeats 4000000 in
theorem itemend_any (s : ByteArray) (a : Nat) (ha : a ≤ s.size) (hs : s.size ≤ 4611686018427387903) (w : World) : Calls Tryd.prog 46 #[.string s, .int .i64 (a : Int)] w fun e w' => e = .returned (.int .i64 ((a + endQ false false (s.data.toList.drop a) : Nat) : Int)) ∧ w = w' := by
  obtain ⟨N, hN⟩ : ∃ N, N = a + endQ false false (s.data.toList.drop a) := ⟨_, rfl⟩
  have hst : AtE s.data.toList N a false := by rw [hN]; exact AtE.start (by rw [lsize]; exact ha)
  rw [← hN]
  clear hN
  go_enter Tryd.func46, Tryd.ntmps46
  go_wp2
  go_loop [1, 5, 6] (fun x q _ => ∃ (k : Nat) (b : Bool), x = .int .i64 (k : Int) ∧ q = .bool b ∧ Hid (AtE s.data.toList N k b)) (fun x _ _ => s.size + 1 - (intOf x).toNat)
  case atStart => exact ⟨a, false, rfl, rfl, hst⟩
  case round =>
    clear hst
    obtain ⟨k, q, rfl, rfl, HA⟩ := hrel
    have hkl := (HA.out.le).1
    rw [lsize] at hkl
    by_cases hlt : k < s.size
    · have hL : k < s.data.toList.length := by rw [lsize]; exact hlt
      have hg : s.data.toList[k] = s[k] := rfl
      by_cases n92 : s[k] = 92
      · have e92 : ((s[k].toNat : Int) == 92) = true := by rw [n92]; rfl
        have e34 : ((s[k].toNat : Int) == 34) = false := by rw [n92]; rfl
        have e44 : ((s[k].toNat : Int) == 44) = false := by rw [n92]; rfl
        cases q
        · have HS := hide (HA.out.other hL (by rw [hg, n92]; decide) (.inl rfl) (.inr (by rw [hg, n92]; decide)))
          clear n92 hg HA
          go_wp2
          go_round
          case rel => exact ⟨k + 1, false, by go_num, rfl, HS⟩
          case measure => simp [intOf]; omega
        · have HS := hide (HA.out.esc hL (by rw [hg, n92]))
          clear n92 hg HA
          go_wp2
          go_round
          case rel => exact ⟨k + 2, true, by go_num, rfl, HS⟩
          case measure => simp [intOf]; omega
      · have e92 : ((s[k].toNat : Int) == 92) = false := by rw [beq_eq_false_iff_ne]; exact fun h => n92 (UInt8.toNat_inj.1 (by show s[k].toNat = 92; omega))
        by_cases n34 : s[k] = 34
        · have e34 : ((s[k].toNat : Int) == 34) = true := by rw [n34]; rfl
          have HS := hide (HA.out.quote hL (by rw [hg, n34]))
          clear n34 n92 hg HA
          cases q
          · go_wp2
            go_round
            case rel => exact ⟨k + 1, true, by go_num, rfl, HS⟩
            case measure => simp [intOf]; omega
          · go_wp2
            go_round
            case rel => exact ⟨k + 1, false, by go_num, rfl, HS⟩
            case measure => simp [intOf]; omega
        · have e34 : ((s[k].toNat : Int) == 34) = false := by rw [beq_eq_false_iff_ne]; exact fun h => n34 (UInt8.toNat_inj.1 (by show s[k].toNat = 34; omega))
          by_cases n44 : s[k] = 44
          · have e44 : ((s[k].toNat : Int) == 44) = true := by rw [n44]; rfl
            cases q
            · have HS := HA.out.comma hL (by rw [hg, n44])
              subst HS
              clear n44 n34 n92 hg HA
              go_wp2
              go_ret
              exact ⟨rfl, rfl⟩
            · have HS := hide (HA.out.other hL (by rw [hg]; exact n34) (.inr (by rw [hg]; exact n92)) (.inl rfl))
              clear n44 n34 n92 hg HA
              go_wp2
              go_round
              case rel => exact ⟨k + 1, true, by go_num, rfl, HS⟩
              case measure => simp [intOf]; omega
          · have e44 : ((s[k].toNat : Int) == 44) = false := by rw [beq_eq_false_iff_ne]; exact fun h => n44 (UInt8.toNat_inj.1 (by show s[k].toNat = 44; omega))
            have HS := hide (HA.out.other hL (by rw [hg]; exact n34) (.inr (by rw [hg]; exact n92)) (.inr (by rw [hg]; exact n44)))
            clear n44 n34 n92 hg HA
            cases q
            · go_wp2
              go_round
              case rel => exact ⟨k + 1, false, by go_num, rfl, HS⟩
              case measure => simp [intOf]; omega
            · go_wp2
              go_round
              case rel => exact ⟨k + 1, true, by go_num, rfl, HS⟩
              case measure => simp [intOf]; omega
    · have HS := HA.out.end_ (by rw [lsize]; exact hlt)
      rw [lsize] at HS
      subst HS
      clear HA
      go_wp2
      go_ret
      exact ⟨rfl, rfl⟩

end Go.Proofs.YtiigkacmahecaaaDoor
