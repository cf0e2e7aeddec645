/-
  Lists of strings: one among some; keys.
-/
import Derived.Test.YtmelcndflllgmaaDoorStrA
import Derived.Test.YtmelcndflllgmaaDoorQuiet
namespace Go.Proofs.YtmelcndflllgmaaDoor
open Go.RowKit
set_option linter.unusedVariables false
set_option linter.unusedSimpArgs false

/-- A slice of strings that can be read, below block B. -/
def RdStrs (w : World) (B : Nat) (v : Value) (ks : List ByteArray) : Prop :=
  ks.length ≤ 9223372036854775807 ∧ (∀ k ∈ ks, k.size ≤ 9223372036854775807) ∧ ∃ (A : Option Addr) (c : Nat), v = .slice A ks.length c ∧ ks.length ≤ c ∧ c ≤ 9223372036854775807 ∧
    ∀ i (h : i < ks.length), ∃ b off, A = some ⟨b, off, none⟩ ∧ b < B ∧ w.cell? ⟨b, off + i, none⟩ = some (.string ks[i])

theorem RdStrs.below {w w' : World} {B : Nat} {v : Value} {ks : List ByteArray} (h : RdStrs w B v ks) (hb : Below B w w') : RdStrs w' B v ks := by
  obtain ⟨h0, h1, A, c, hv, h2, h3, hc⟩ := h
  refine ⟨h0, h1, A, c, hv, h2, h3, fun i hi => ?_⟩
  obtain ⟨b, off, e, hlt, c1⟩ := hc i hi
  exact ⟨b, off, e, hlt, by rw [hb.cell hlt]; exact c1⟩
theorem RdStrs.mono {w : World} {B B' : Nat} {v : Value} {ks : List ByteArray} (h : RdStrs w B v ks) (hB : B ≤ B') : RdStrs w B' v ks := by
  obtain ⟨h0, h1, A, c, hv, h2, h3, hc⟩ := h
  refine ⟨h0, h1, A, c, hv, h2, h3, fun i hi => ?_⟩
  obtain ⟨b, off, e, hlt, c1⟩ := hc i hi
  exact ⟨b, off, e, by omega, c1⟩
theorem RdStrs.form {w : World} {B : Nat} {v : Value} {ks : List ByteArray} (h : RdStrs w B v ks) : ∃ A c, v = .slice A ks.length c ∧ ks.length ≤ c ∧ c ≤ 9223372036854775807 := by
  obtain ⟨_, _, A, c, hv, h2, h3, _⟩ := h; exact ⟨A, c, hv, h2, h3⟩
theorem RdStrs.take {w : World} {B n c : Nat} {A : Option Addr} {ks : List ByteArray} (h : RdStrs w B (.slice A ks.length c) ks) (hn : n ≤ ks.length) : RdStrs w B (.slice A n c) (ks.take n) := by
  obtain ⟨h0, h1, A', c', hv, h2, h3, hc⟩ := h
  simp only [Value.slice.injEq] at hv
  obtain ⟨rfl, _, rfl⟩ := hv
  have hl : (ks.take n).length = n := by simp; omega
  refine ⟨by omega, fun k hk => h1 k (List.mem_of_mem_take hk), A, c, by rw [hl], by omega, h3, fun i hi => ?_⟩
  obtain ⟨b, off, e, hlt, c1⟩ := hc i (by omega)
  exact ⟨b, off, e, hlt, by rw [List.getElem_take]; exact c1⟩
theorem RdStrs.nil (w : World) (B : Nat) : RdStrs w B (.slice none 0 0) [] := ⟨by simp, by simp, none, 0, rfl, by simp, by simp, fun i h => by simp at h⟩

def hasB (ks : List ByteArray) (s : ByteArray) : Bool := ks.any fun x => s.toList == x.toList
def keysB (ks : List ByteArray) : Bool := decide (ks.length ≤ 32) && (List.range ks.length).all fun i => keyOk (ks.getD i ⟨#[]⟩) && !hasB (ks.take i) (ks.getD i ⟨#[]⟩)
def KG (ks : List ByteArray) (k : Nat) : Prop := ∀ i (h : i < ks.length), i < k → keyOk ks[i] = true ∧ hasB (ks.take i) ks[i] = false
theorem getD_at (ks : List ByteArray) (i : Nat) (h : i < ks.length) : ks.getD i ⟨#[]⟩ = ks[i] := by simp [List.getD, h]
theorem keysB_long {ks : List ByteArray} (h : 32 < ks.length) : keysB ks = false := by unfold keysB; simp; omega
theorem keysB_yes {ks : List ByteArray} {k : Nat} (h : ks.length ≤ 32) (hk : ks.length ≤ k) (hg : KG ks k) : keysB ks = true := by
  unfold keysB
  simp only [h, decide_true, Bool.true_and, List.all_eq_true, List.mem_range]
  intro i hi
  rw [getD_at ks i hi]
  obtain ⟨a, b⟩ := hg i hi (by omega)
  rw [a, b]; rfl
theorem keysB_no {ks : List ByteArray} {k : Nat} (hk : k < ks.length) (hg : keyOk ks[k] = false ∨ hasB (ks.take k) ks[k] = true) : keysB ks = false := by
  unfold keysB
  rw [Bool.and_eq_false_iff]
  right
  rw [List.all_eq_false]
  refine ⟨k, by simpa using hk, ?_⟩
  rw [getD_at ks k hk]
  rcases hg with h | h <;> simp [h]
theorem kg_zero (ks : List ByteArray) : KG ks 0 := fun i _ h => absurd h (Nat.not_lt_zero i)
theorem kg_step {ks : List ByteArray} {k : Nat} (h : KG ks k) (hk : k < ks.length) (h1 : keyOk ks[k] = true) (h2 : hasB (ks.take k) ks[k] = false) : KG ks (k + 1) := by
  intro i hi hik
  rcases Nat.lt_or_ge i k with h' | h'
  · exact h i hi h'
  · obtain rfl : i = k := by omega
    exact ⟨h1, h2⟩

def IdxOk (b : Bool) (w : World) (e : Ending) (w' : World) : Prop := ∃ n : Int, decide (0 ≤ n) = b ∧ e = .returned (.int .i64 n) ∧ w = w'
theorem hasB_none {ks : List ByteArray} {s : ByteArray} (h : ∀ j (hj : j < ks.length), (s.toList == ks[j].toList) = false) : hasB ks s = false := by
  unfold hasB
  rw [List.any_eq_false]
  intro x hx
  obtain ⟨j, hj, rfl⟩ := List.getElem_of_mem hx
  simpa using h j hj
theorem hasB_some {ks : List ByteArray} {s : ByteArray} {j : Nat} (hj : j < ks.length) (h : (s.toList == ks[j].toList) = true) : hasB ks s = true := by
  unfold hasB
  rw [List.any_eq_true]
  exact ⟨ks[j], List.getElem_mem hj, h⟩

set_option maxHeartbeats 1000000 in
theorem index_any (v : Value) (ks : List ByteArray) (s : ByteArray) (w : World) (B : Nat) (hr : RdStrs w B v ks) :
    Calls Tryd.prog 45 #[v, .string s] w (IdxOk (hasB ks s) w) := by
  obtain ⟨h0, hz, A, c, rfl, h2, h3, hc⟩ := hr
  have HC := hide hc
  clear hc hz
  go_enter Tryd.func45, Tryd.ntmps45
  go_wp2
  go_loop [8] (fun i => ∃ k : Nat, k ≤ ks.length ∧ i = .int .i64 k ∧ Hid (∀ j (hj : j < ks.length), j < k → (s.toList == ks[j].toList) = false)) (fun i => ks.length - (intOf i).toNat)
  case atStart => exact ⟨0, Nat.zero_le _, rfl, fun j _ h => absurd h (Nat.not_lt_zero j)⟩
  case round =>
    obtain ⟨k, hk, rfl, HA⟩ := hrel
    by_cases hlt : k < ks.length
    · obtain ⟨b, off, rfl, hbl, c1⟩ := HC.out k hlt
      cases he : (s.toList == ks[k].toList)
      · have HS := hide (show ∀ j (hj : j < ks.length), j < k + 1 → (s.toList == ks[j].toList) = false from fun j hj hjk => by
          rcases Nat.lt_or_ge j k with h' | h'
          · exact HA.out j hj h'
          · obtain rfl : j = k := by omega
            exact he)
        go_wp2
        go_round
        case rel => exact ⟨k + 1, by omega, by go_num, HS⟩
        case measure => simp [intOf]; omega
      · have HS := hide (hasB_some hlt he)
        go_wp2
        go_ret
        exact ⟨k, by rw [HS.out]; simp, rfl, rfl⟩
    · have HS := hide (hasB_none (ks := ks) (s := s) fun j hj => HA.out j hj (by omega))
      go_wp2
      go_ret
      exact ⟨-1, by rw [HS.out]; rfl, rfl, rfl⟩

set_option maxHeartbeats 1000000 in
theorem contains_any (v : Value) (ks : List ByteArray) (s : ByteArray) (w : World) (B : Nat) (hr : RdStrs w B v ks) :
    Calls Tryd.prog 24 #[v, .string s] w (BoolAt (hasB ks s) w) := by
  go_enter Tryd.func24, Tryd.ntmps24
  go_wp2_with fail
  refine (index_any v ks s _ B hr).mono ?_
  rintro e w' ⟨n, hn, rfl, rfl⟩
  have HN := hide hn
  clear hn
  go_wp2
  go_ret
  exact ⟨ret_bool HN.out, rfl⟩

theorem below_drew {B : Nat} {a w : World} (h : Below B a w) : Below B a w.drew := h.drew

set_option maxHeartbeats 2000000 in
theorem rkeys (v : Value) (ks : List ByteArray) (w : World) (B : Nat) (hB : B ≤ w.heap.size) (hr : RdStrs w B v ks) :
    Calls Tryd.prog 27 #[v] w (BoolOk (keysB ks) w) := by
  obtain ⟨h0, hz, A, c, rfl, h2, h3, hc⟩ := hr
  have HC := hide hc
  have HZ := hide hz
  clear hc hz
  by_cases hl : 32 < ks.length
  · have hx := hide (keysB_long hl)
    have hl' : (32 : Int) < (ks.length : Int) := by omega
    go_enter Tryd.func27, Tryd.ntmps27
    go_wp2
    go_ret
    exact ⟨ret_bool hx.out.symm, Below.refl _ _⟩
  · have hl' : ¬ (32 : Int) < (ks.length : Int) := by omega
    have hl2 : ks.length ≤ 32 := by omega
    clear hl
    go_enter Tryd.func27, Tryd.ntmps27
    go_wp2
    go_loopw [3, 4] (fun i x wr => ∃ (k : Nat), k ≤ ks.length ∧ i = .int .i64 k ∧ Hid (KG ks k) ∧ Below w.heap.size w wr) (fun i _ _ => ks.length - (intOf i).toNat)
    case atStart => exact ⟨0, Nat.zero_le _, rfl, kg_zero ks, Below.refl _ _⟩
    case round =>
      obtain ⟨k, hk, rfl, HA, hb⟩ := hrel
      by_cases hlt : k < ks.length
      · obtain ⟨b, off, rfl, hbl, c1⟩ := HC.out k hlt
        have d1 : wr.cell? ⟨b, off + k, none⟩ = some (.string ks[k]) := by rw [hb.cell (by show b < _; omega)]; exact c1
        have hsz := HZ.out ks[k] (List.getElem_mem hlt)
        clear c1
        cases hq : keyOk ks[k]
        · have hx := hide (keysB_no hlt (.inl hq))
          go_wp2_with fail
          refine (rkey _ _ hsz).mono ?_
          rintro e w' ⟨rfl, rfl⟩
          go_wp2_with fail
          go_ret
          exact ⟨ret_bool hx.out.symm, hb⟩
        · have HQ := hide hq
          go_wp2_with fail
          refine (rkey _ _ hsz).mono ?_
          rintro e w' ⟨rfl, rfl⟩
          go_wp2_with fail
          obtain ⟨wo, hwo⟩ : ∃ wo : World, wo = wr := ⟨_, rfl⟩
          have HBB := hide hb
          clear hwo hb d1 hq
          go_loopw [4] (fun i wr => ∃ j : Nat, j ≤ k ∧ i = .int .i64 j ∧ Hid (∀ l (hl : l < ks.length), l < j → (ks[k].toList == ks[l].toList) = false) ∧ Below w.heap.size w wr) (fun i _ => k - (intOf i).toNat)
          case atStart => exact ⟨0, Nat.zero_le _, rfl, fun l _ h => absurd h (Nat.not_lt_zero l), HBB.out⟩
          case round =>
            obtain ⟨j, hj, rfl, HL, hq⟩ := hrel
            by_cases hjk : j < k
            · obtain ⟨b', off', hAA, hbl', x1⟩ := HC.out j (by omega)
              simp only [Option.some.injEq, Addr.mk.injEq, and_true] at hAA
              obtain ⟨rfl, rfl⟩ := hAA
              obtain ⟨_, _, hAA, _, x2⟩ := HC.out k hlt
              simp only [Option.some.injEq, Addr.mk.injEq, and_true] at hAA
              obtain ⟨rfl, rfl⟩ := hAA
              have y1 : ∀ n, (wr.drewN n).cell? ⟨b, off + j, none⟩ = some (.string ks[j]) := fun n => by rw [show (wr.drewN n).cell? ⟨b, off + j, none⟩ = wr.cell? ⟨b, off + j, none⟩ from rfl, hq.cell (by show b < _; omega)]; exact x1
              have y2 : ∀ n, (wr.drewN n).cell? ⟨b, off + k, none⟩ = some (.string ks[k]) := fun n => by rw [show (wr.drewN n).cell? ⟨b, off + k, none⟩ = wr.cell? ⟨b, off + k, none⟩ from rfl, hq.cell (by show b < _; omega)]; exact x2
              clear x1 x2
              have hjl : j < ks.length := by omega
              have g1 : (0 : Int) ≤ (j : Int) := by omega
              have g2 : (j : Int) < (ks.length : Int) := by omega
              have g3 : (0 : Int) ≤ (k : Int) := by omega
              have g4 : (k : Int) < (ks.length : Int) := by omega
              cases he : (ks[k].toList == ks[j].toList)
              · have he2 : (ks[j].toList == ks[k].toList) = false := by rw [beq_eq_false_iff_ne] at he ⊢; exact fun e => he e.symm
                have HS := hide (show ∀ l (hl : l < ks.length), l < j + 1 → (ks[k].toList == ks[l].toList) = false from fun l hl hlj => by
                  rcases Nat.lt_or_ge l j with h' | h'
                  · exact HL.out l hl h'
                  · obtain rfl : l = j := by omega
                    exact he)
                clear he
                go_wp2_with fail
                go_quiet (fail)
                go_wp2
                go_roundw
                case rel => exact ⟨j + 1, by omega, by go_num, HS, below_drewN hq _⟩
                case measure => simp [intOf]; omega
              · have he2 : (ks[j].toList == ks[k].toList) = true := by rw [beq_iff_eq] at he ⊢; exact he.symm
                have HS := hide (keysB_no hlt (.inr (hasB_some (ks := ks.take k) (s := ks[k]) (j := j) (by simp; omega) (by rw [List.getElem_take]; exact he))))
                clear he
                go_wp2_with fail
                go_quiet (fail)
                go_wp2
                go_ret
                exact ⟨ret_bool HS.out.symm, below_drewN hq _⟩
            · have HS := hide (kg_step HA.out hlt HQ.out (hasB_none (ks := ks.take k) (s := ks[k]) fun l hl => by rw [List.getElem_take]; exact HL.out l (by simp at hl; omega) (by simp at hl; omega)))
              go_wp2_with fail
              go_roundw
              case rel => exact ⟨k + 1, by omega, by go_num, HS, hq⟩
              case measure => simp [intOf]; omega
      · have HE := hide (keysB_yes hl2 (by omega) HA.out)
        go_wp2
        go_ret
        exact ⟨ret_bool HE.out.symm, hb⟩
end Go.Proofs.YtmelcndflllgmaaDoor
