/-
  Merged: CndA, CndB.
-/
import Derived.Test.YtkmheoolekookaaDoorGrF
import Derived.Test.YtkmheoolekookaaDoorTagU
import Derived.Test.YtkmheoolekookaaDoorTagT
import Derived.Test.YtkmheoolekookaaDoorDateI
import Derived.Test.YtkmheoolekookaaDoorDateJ
import Derived.OwnWalk
namespace Go.Proofs.YtkmheoolekookaaDoor
open Go.RowKit
set_option linter.unusedVariables false
set_option linter.unusedSimpArgs false

/-- Whether fields are few and short; if so, how long they are. -/
def FitsOk (l : List FieldL) (m b : Nat) (w : World) (e : Ending) (w' : World) : Prop := ∃ r : Bool, e = .returned (.bool r) ∧ Below w.heap.size w w' ∧ (r = true → l.length ≤ m ∧ sumF l ≤ b)
theorem sumF_take {l : List FieldL} {k : Nat} (h : k < l.length) : sumF (l.take (k + 1)) = sumF (l.take k) + (l[k].1.length + l[k].2.length) := by
  rw [List.take_succ_eq_append_getElem h, sumF_app]; simp [sumF]

set_option maxRecDepth 100000 in
set_option maxHeartbeats 4000000 in
theorem fits_any (v : Value) (l : List FieldL) (m b : Nat) (w : World) (hr : RdL LF w w.heap.size v l) (hz : ∀ f ∈ l, f.1.length ≤ 9223372036854775807 ∧ f.2.length ≤ 9223372036854775807) (hb : b ≤ 1000000) : Calls Tryd.prog 6 #[v, .int .i64 (m : Int), .int .i64 (b : Int)] w (FitsOk l m b w) := by
  obtain ⟨A, c, rfl, hlc, hc⟩ := hr.form
  have hlen := hr.len
  have HR := hide hr
  clear hr
  go_enter Tryd.func6, Tryd.ntmps6
  go_wp2_with fail
  go_loopw [2, 8, 11] (fun c2 c8 c11 wr => ∃ (k t : Nat), k ≤ l.length ∧ c11 = .int .i64 (k : Int) ∧ c2 = .int .i64 (t : Int) ∧ Hid (sumF (l.take k) + t = b) ∧ t ≤ 1000000 ∧ Below w.heap.size w wr) (fun _ _ c11 _ => l.length - (intOf c11).toNat)
  case atStart => exact ⟨0, b, Nat.zero_le _, rfl, rfl, (show sumF [] + b = b by simp [sumF]), hb, Below.refl _ _⟩
  case round =>
    obtain ⟨k, t, hk, rfl, rfl, HS, htb, hbel⟩ := hrel
    by_cases hlt : k < l.length
    · obtain ⟨b0, off, hA, hbl, c0, c1⟩ := HR.out.field k hlt
      subst hA
      obtain ⟨x, hx⟩ : ∃ x : ByteArray, x = ⟨l[k].1.toArray⟩ := ⟨_, rfl⟩
      obtain ⟨y, hy⟩ : ∃ x : ByteArray, x = ⟨l[k].2.toArray⟩ := ⟨_, rfl⟩
      rw [← hx] at c0
      rw [← hy] at c1
      have d0 : wr.cell? ⟨b0, off + k * 2, none⟩ = some (.string x) := by rw [hbel.cell (by show b0 < _; omega)]; exact c0
      have d1 : wr.cell? ⟨b0, off + k * 2 + 1, none⟩ = some (.string y) := by rw [hbel.cell (by show b0 < _; omega)]; exact c1
      have hst : sumF (l.take (k + 1)) = sumF (l.take k) + (x.size + y.size) := by rw [sumF_take hlt, ← lsize x, ← lsize y, hx, hy]
      have hxr : x.size ≤ 9223372036854775807 := by rw [← lsize, hx]; exact (hz _ (List.getElem_mem hlt)).1
      have hyr : y.size ≤ 9223372036854775807 := by rw [← lsize, hy]; exact (hz _ (List.getElem_mem hlt)).2
      have HST := hide hst
      have hbz := hbel.size
      clear c0 c1 hx hy hst
      by_cases h1 : t < x.size
      · have e1 : decide ((x.size : Int) > (t : Int)) = true := decide_eq_true (by omega)
        go_wp2_with fail
        go_ret
        exact ⟨false, rfl, hbel.alloc hbz _, by simp⟩
      · have e1 : decide ((x.size : Int) > (t : Int)) = false := decide_eq_false (by omega)
        by_cases h2 : t < y.size
        · have e2 : decide ((y.size : Int) > (t : Int)) = true := decide_eq_true (by omega)
          go_wp2_with fail
          go_ret
          exact ⟨false, rfl, hbel.alloc hbz _, by simp⟩
        · have e2 : decide ((y.size : Int) > (t : Int)) = false := decide_eq_false (by omega)
          by_cases h3 : t < x.size + y.size
          · have e3 : decide ((t : Int) - (x.size : Int) - (y.size : Int) < 0) = true := decide_eq_true (by omega)
            go_wp2_with fail
            go_ret
            exact ⟨false, rfl, hbel.alloc hbz _, by simp⟩
          · have e3 : decide ((t : Int) - (x.size : Int) - (y.size : Int) < 0) = false := decide_eq_false (by omega)
            have HN := hide (show sumF (l.take (k + 1)) + (t - x.size - y.size) = b by rw [HST.out]; have := HS.out; omega)
            have hcast : (((t - x.size - y.size : Nat)) : Int) = (t : Int) - (x.size : Int) - (y.size : Int) := by omega
            go_wp2_with fail
            go_roundw
            case rel => exact ⟨k + 1, t - x.size - y.size, by omega, by go_num, by rw [hcast], HN, by omega, hbel.alloc hbz _⟩
            case measure => simp [intOf] <;> omega
    · have HX := hide (show sumF l ≤ b by have := HS.out; rw [List.take_of_length_le (by omega)] at this; omega)
      by_cases h4 : l.length ≤ m
      · have e4 : decide ((l.length : Int) ≤ (m : Int)) = true := decide_eq_true (by omega)
        go_wp2_with fail
        go_ret
        exact ⟨true, rfl, hbel, fun _ => ⟨h4, HX.out⟩⟩
      · have e4 : decide ((l.length : Int) ≤ (m : Int)) = false := decide_eq_false (by omega)
        go_wp2_with fail
        go_ret
        exact ⟨false, rfl, hbel, by simp⟩

theorem same_take8 {a b : List TagL} {k : Nat} (h : a.take k = b.take k) (h1 : k < a.length) (h2 : k < b.length) (he : a[k] = b[k]) : a.take (k + 1) = b.take (k + 1) := by
  rw [List.take_succ_eq_append_getElem h1, List.take_succ_eq_append_getElem h2, h, he]

set_option maxHeartbeats 2000000 in
theorem tags8_any (v1 v2 : Value) (l1 l2 : List TagL) (w : World) (hr1 : RdL LT w w.heap.size v1 l1) (hr2 : RdL LT w w.heap.size v2 l2) : Calls Tryd.prog 27 #[v1, v2] w (BoolOk (decide (l1 = l2)) w) := by
  obtain ⟨A1, c1, rfl, hlc1, hcm1⟩ := hr1.form
  obtain ⟨A2, c2, rfl, hlc2, hcm2⟩ := hr2.form
  have hlen1 := hr1.len
  have hlen2 := hr2.len
  by_cases hl : l1.length = l2.length
  · have d0 : ((l1.length : Int) != (l2.length : Int)) = false := by simp [bne, hl]
    have HL := hide hl
    have hle : l1.length ≤ l2.length := by omega
    have hge : l2.length ≤ l1.length := by omega
    clear hl
    go_enter Tryd.func27, Tryd.ntmps27
    go_wp2_with fail
    go_loopw [5, 13] (fun _ c5 wr => ∃ k : Nat, k ≤ l1.length ∧ c5 = .int .i64 (k : Int) ∧ Hid (l1.take k = l2.take k) ∧ Below w.heap.size w wr) (fun _ c5 _ => l1.length - (intOf c5).toNat)
    case atStart => exact ⟨0, Nat.zero_le _, rfl, (show List.take 0 l1 = List.take 0 l2 by simp), Below.refl _ _⟩
    case round =>
      obtain ⟨k, hk, rfl, HT, hbel⟩ := hrel
      by_cases hlt : k < l1.length
      · have hlt2 : k < l2.length := by omega
        obtain ⟨b1, off1, hA1, hb1, hcell⟩ := hr1.at_ k hlt
        subst hA1
        have hc10 : wr.cell? ⟨b1, off1 + k * 2, none⟩ = some (.string ⟨l1[k].1.toArray⟩) := by rw [hbel.cell (by show b1 < _; omega)]; simpa [LT] using hcell 0 _ rfl
        have hc11 : wr.cell? ⟨b1, off1 + k * 2 + 1, none⟩ = some (.bool l1[k].2) := by rw [hbel.cell (by show b1 < _; omega)]; simpa [LT] using hcell 1 _ rfl
        clear hcell
        obtain ⟨b2, off2, hA2, hb2, hcell⟩ := hr2.at_ k hlt2
        subst hA2
        have hc20 : wr.cell? ⟨b2, off2 + k * 2, none⟩ = some (.string ⟨l2[k].1.toArray⟩) := by rw [hbel.cell (by show b2 < _; omega)]; simpa [LT] using hcell 0 _ rfl
        have hc21 : wr.cell? ⟨b2, off2 + k * 2 + 1, none⟩ = some (.bool l2[k].2) := by rw [hbel.cell (by show b2 < _; omega)]; simpa [LT] using hcell 1 _ rfl
        clear hcell
        have g1 : (0 : Int) ≤ (k : Int) := by omega
        have g2 : (k : Int) < (l1.length : Int) := by omega
        have g3 : (k : Int) < (l2.length : Int) := by omega
        obtain ⟨x, hx⟩ : ∃ x : ByteArray, x = ⟨l1[k].1.toArray⟩ := ⟨_, rfl⟩
        obtain ⟨y, hy⟩ : ∃ x : ByteArray, x = ⟨l2[k].1.toArray⟩ := ⟨_, rfl⟩
        obtain ⟨p, hp⟩ : ∃ p, p = l1[k].2 := ⟨_, rfl⟩
        obtain ⟨q, hq⟩ : ∃ p, p = l2[k].2 := ⟨_, rfl⟩
        rw [← hx] at hc10
        rw [← hy] at hc20
        rw [← hp] at hc11
        rw [← hq] at hc21
        have m10 : ∀ n, (wr.drewN n).cell? ⟨b1, off1 + k * 2, none⟩ = some (.string x) := fun n => hc10
        have m11 : ∀ n, (wr.drewN n).cell? ⟨b1, off1 + k * 2 + 1, none⟩ = some (.bool p) := fun n => hc11
        have m20 : ∀ n, (wr.drewN n).cell? ⟨b2, off2 + k * 2, none⟩ = some (.string y) := fun n => hc20
        have m21 : ∀ n, (wr.drewN n).cell? ⟨b2, off2 + k * 2 + 1, none⟩ = some (.bool q) := fun n => hc21
        have hE : (l1[k] = l2[k]) ↔ (x.toList == y.toList) = true ∧ p = q := by
          rw [ByteArray.toList_eq, ByteArray.toList_eq, hx, hy, hp, hq, beq_iff_eq]
          exact Prod.ext_iff
        have HE := hide hE
        clear hE hx hy hp hq hc10 hc11 hc20 hc21
        cases hxy : (x.toList == y.toList)
        · have HX := hide (show ¬ l1 = l2 from fun e => by subst e; have := (HE.out.1 rfl).1; rw [hxy] at this; cases this)
          go_wp2_with fail
          go_quiet (fail)
          go_wp2_with fail
          go_ret
          exact ⟨ret_bool (decide_eq_false HX.out).symm, below_drewN hbel _⟩
        · cases p <;> cases q
          case false.false =>
            have HX := hide (same_take8 HT.out hlt hlt2 (HE.out.2 ⟨hxy, rfl⟩))
            go_wp2_with fail
            go_quiet (fail)
            go_wp2_with fail
            go_roundw
            case rel => exact ⟨k + 1, by omega, by go_num, HX, below_drewN hbel _⟩
            case measure => simp [intOf] <;> omega
          case true.true =>
            have HX := hide (same_take8 HT.out hlt hlt2 (HE.out.2 ⟨hxy, rfl⟩))
            go_wp2_with fail
            go_quiet (fail)
            go_wp2_with fail
            go_roundw
            case rel => exact ⟨k + 1, by omega, by go_num, HX, below_drewN hbel _⟩
            case measure => simp [intOf] <;> omega
          case false.true =>
            have HX := hide (show ¬ l1 = l2 from fun e => by subst e; have := (HE.out.1 rfl).2; cases this)
            go_wp2_with fail
            go_quiet (fail)
            go_wp2_with fail
            go_ret
            exact ⟨ret_bool (decide_eq_false HX.out).symm, below_drewN hbel _⟩
          case true.false =>
            have HX := hide (show ¬ l1 = l2 from fun e => by subst e; have := (HE.out.1 rfl).2; cases this)
            go_wp2_with fail
            go_quiet (fail)
            go_wp2_with fail
            go_ret
            exact ⟨ret_bool (decide_eq_false HX.out).symm, below_drewN hbel _⟩
      · have HX := hide (show l1 = l2 by
          have := HT.out
          rwa [List.take_of_length_le (by omega), List.take_of_length_le (by omega)] at this)
        go_wp2_with fail
        go_ret
        exact ⟨ret_bool (decide_eq_true HX.out).symm, hbel⟩
  · have d0 : ((l1.length : Int) != (l2.length : Int)) = true := by simp [bne]; omega
    have HX := hide (show ¬ l1 = l2 from fun e => hl (by rw [e]))
    clear hl
    go_enter Tryd.func27, Tryd.ntmps27
    go_wp2_with fail
    go_ret
    exact ⟨ret_bool (decide_eq_false HX.out).symm, Below.refl _ _⟩


/-- Values joined; whether there is one. -/
def JoinOk (vs : List Bs) (w : World) (e : Ending) (w' : World) : Prop := ∃ s : ByteArray, s.data.toList = Lib.join vs [44, 32] ∧ e = .returned (.tuple #[.string s, .bool (decide (0 < vs.length))]) ∧ Below w.heap.size w w'
theorem join_first {vs : List Bs} (h : 0 < vs.length) : Lib.join (vs.take (0 + 1)) [44, 32] = vs[0] := by
  cases vs with
  | nil => simp at h
  | cons x r => exact Lib.join_one _ _
theorem join_next {vs : List Bs} {k : Nat} (h : k < vs.length) (h0 : k ≠ 0) : Lib.join (vs.take (k + 1)) [44, 32] = Lib.join (vs.take k) [44, 32] ++ [44, 32] ++ vs[k] := by
  rw [List.take_succ_eq_append_getElem h, join_snoc _ _ _ (by
    intro e
    have := congrArg List.length e
    rw [List.length_take] at this
    have h2 : min k vs.length = 0 := this
    omega)]
theorem join_part (vs : List Bs) (k : Nat) : (Lib.join (vs.take k) [44, 32]).length ≤ (vs.map List.length).sum + vs.length * 2 := by
  have h1 := join_sum (vs.take k) [44, 32]
  have h2 : ((vs.take k).map List.length).sum ≤ (vs.map List.length).sum := Lib.lens_take_le vs k
  rw [List.length_take] at h1
  simp only [List.length_cons, List.length_nil] at h1
  omega
theorem of_sizes (l : List FieldL) (n : Bs) (hll : l.length ≤ 1000) (hsum : sumF l ≤ 900000) : (ofV l n).length ≤ 1000 ∧ ((ofV l n).map List.length).sum ≤ 900000 := by
  have := ofV_len l n
  have := sumF_of l n
  omega

set_option maxRecDepth 100000 in
set_option maxHeartbeats 4000000 in
theorem joined_any (v : Value) (l : List FieldL) (n : ByteArray) (w : World) (hr : RdL LF w w.heap.size v l) (hz : ∀ f ∈ l, f.1.length ≤ 1000000) (hn : n.size ≤ 1000000) (hll : l.length ≤ 1000) (hsum : sumF l ≤ 900000) : Calls Tryd.prog 51 #[v, .string n] w (JoinOk (ofV l n.data.toList) w) := by
  go_enter Tryd.func51, Tryd.ntmps51
  go_wp2_with fail
  refine (rof7_any v l n _ hr hz hn (by omega)).mono ?_
  rintro e w2 ⟨v2, rfl, O2, hB2⟩
  obtain ⟨vs, hvs⟩ : ∃ vs, vs = ofV l n.data.toList := ⟨_, rfl⟩
  have hsz := of_sizes l n.data.toList hll hsum
  rw [← hvs] at O2 hsz
  have HVS := hide hvs
  clear hvs
  obtain ⟨A2, c2, hv2, hc20, hc21⟩ := O2.rd.form
  subst hv2
  obtain ⟨hvl, hvsum⟩ := hsz
  have HO := hide O2
  clear O2 hr
  go_wp2_with fail
  go_loopw [6, 8, 9, 15] (fun c6 c8 c9 c15 wr => ∃ (k : Nat) (u : ByteArray), k ≤ vs.length ∧ c15 = .int .i64 (k : Int) ∧ c6 = .string u ∧ u.size ≤ 902000 ∧ Hid (u.data.toList = Lib.join (vs.take k) [44, 32]) ∧ w2 = wr) (fun _ _ _ c15 _ => vs.length - (intOf c15).toNat)
  case atStart => exact ⟨0, ⟨#[]⟩, Nat.zero_le _, rfl, rfl, by decide, rfl, rfl⟩
  case round =>
    obtain ⟨k, u, hk, rfl, rfl, hus, HU, rfl⟩ := hrel
    by_cases hlt : k < vs.length
    · obtain ⟨b0, off, hA, hbl, c0⟩ := HO.out.rd.text k hlt
      subst hA
      obtain ⟨y, hy⟩ : ∃ x : ByteArray, x = ⟨vs[k].toArray⟩ := ⟨_, rfl⟩
      rw [← hy] at c0
      have hyl : y.data.toList = vs[k] := by rw [hy]
      have hp := join_part vs (k + 1)
      by_cases k0 : k = 0
      · have gk : ¬ 0 < k := by omega
        have hz2 : (u ++ y).data.toList = Lib.join (vs.take (k + 1)) [44, 32] := by
          have := HU.out
          subst k0
          rw [join_first hlt, ByteArray.data_append, Array.toList_append, this, ← hyl]; rfl
        have hzs : (u ++ y).size ≤ 902000 := by rw [← lsize, hz2]; omega
        obtain ⟨z, hzz⟩ : ∃ z : ByteArray, z = u ++ y := ⟨_, rfl⟩
        have gs : ¬ 9223372036854775807 < u.size + y.size := by rw [← ByteArray.size_append]; omega
        rw [← hzz] at hz2 hzs
        have HZ2 := hide hz2
        have HZZ := hide hzz
        clear hz2 hp k0 hy hyl
        go_wp2_with fail
        first | rw [← HZZ.out] | skip
        go_roundw
        case rel => exact ⟨k + 1, z, by omega, by go_num, rfl, hzs, HZ2, by first | rfl | trivial⟩
        case measure => simp [intOf] <;> omega
      · have gk : 0 < k := by omega
        have hz2 : ((u ++ ⟨#[44, 32]⟩) ++ y : ByteArray).data.toList = Lib.join (vs.take (k + 1)) [44, 32] := by
          rw [join_next hlt k0, ← HU.out, ← hyl]; simp [ByteArray.data_append]
        have hzs : ((u ++ ⟨#[44, 32]⟩) ++ y : ByteArray).size ≤ 902000 := by rw [← lsize, hz2]; omega
        have h2s : (⟨#[44, 32]⟩ : ByteArray).size = 2 := rfl
        have gs0 : ¬ 9223372036854775807 < u.size + (⟨#[44, 32]⟩ : ByteArray).size := by rw [h2s]; omega
        have gs : ¬ 9223372036854775807 < u.size + 2 + y.size := by have := hzs; rw [ByteArray.size_append, ByteArray.size_append, h2s] at this; omega
        obtain ⟨z, hzz⟩ : ∃ z : ByteArray, z = (u ++ ⟨#[44, 32]⟩) ++ y := ⟨_, rfl⟩
        rw [← hzz] at hz2 hzs
        have HZ2 := hide hz2
        have HZZ := hide hzz
        clear hz2 hp k0 hy hyl
        go_wp2_with fail
        first | rw [← HZZ.out] | skip
        go_roundw
        case rel => exact ⟨k + 1, z, by omega, by go_num, rfl, hzs, HZ2, by first | rfl | trivial⟩
        case measure => simp [intOf] <;> omega
    · have HX := hide (show u.data.toList = Lib.join vs [44, 32] by have := HU.out; rw [List.take_of_length_le (by omega)] at this; exact this)
      go_wp2_with fail
      go_ret2
      exact ⟨u, by rw [HX.out, HVS.out], by rw [← HVS.out]; rfl, hB2⟩

end Go.Proofs.YtkmheoolekookaaDoor
namespace Go.Proofs.YtkmheoolekookaaDoor
open Go.RowKit
set_option linter.unusedVariables false
set_option linter.unusedSimpArgs false

theorem ret_list {v : Value} {a : Bool} {E : Int} {r : ListR} (h1 : r.any = a) (h2 : (r.e : Int) = E) : Ending.returned (.tuple #[v, .bool a, .int .i64 E]) = .returned (.tuple #[v, .bool r.any, .int .i64 (r.e : Int)]) := by rw [h1, h2]
theorem RdL.list_nil {w : World} {l : List TagL} : l = [] → OwnL LT w.heap.size w (.slice none 0 0) l := by rintro rfl; exact OwnL.nil _ _ _

set_option maxRecDepth 100000 in
set_option maxHeartbeats 4000000 in
theorem ctags_any (v : Value) (l : List FieldL) (n : ByteArray) (w : World) (hr : RdL LF w w.heap.size v l) (hz : ∀ f ∈ l, f.1.length ≤ 1000000) (hn : n.size ≤ 1000000) (hll : l.length ≤ 1000) (hsum : sumF l ≤ 900000) : Calls Tryd.prog 19 #[v, .string n] w (ListOk (tagsV (ofV l n.data.toList)) w) := by
  go_enter Tryd.func19, Tryd.ntmps19
  go_wp2_with fail
  refine (fof_any v l n _ hr hz hn (by omega)).mono ?_
  rintro e w2 ⟨v2, rfl, O2, hB2⟩
  obtain ⟨vs, hvs⟩ : ∃ vs, vs = ofV l n.data.toList := ⟨_, rfl⟩
  have hsz := of_sizes l n.data.toList hll hsum
  rw [← hvs] at O2 hsz
  have HVS := hide hvs
  clear hvs
  obtain ⟨A2, c2, hv2, hc20, hc21⟩ := O2.rd.form
  subst hv2
  obtain ⟨hvl, hvsum⟩ := hsz
  by_cases hvn : vs = []
  · have d0 : ((vs.length : Int) == 0) = true := by rw [beq_iff_eq, hvn]; rfl
    have HX := hide (show tagsV vs = ⟨false, 0, []⟩ by rw [hvn]; rfl)
    clear hvn
    go_wp2_with fail
    go_ret3
    exact ⟨_, ret_list (by rw [← HVS.out, HX.out]) (by rw [← HVS.out, HX.out]; rfl), by rw [← HVS.out, HX.out]; exact OwnL.nil _ _ _, hB2⟩
  · have d0 : ((vs.length : Int) == 0) = false := by rw [beq_eq_false_iff_ne]; have := List.length_pos_iff.2 hvn; omega
    have hjl := join_sum vs [44, 32]
    have hj2 : ([44, 32] : Bs).length = 2 := rfl
    rw [hj2] at hjl
    have hrd := O2.rd
    go_wp2_with fail
    refine (join_any _ vs ⟨#[44, 32]⟩ _ hrd (by omega) (by show (Lib.join vs [44, 32]).length ≤ _; omega)).mono ?_
    rintro e w3 ⟨rfl, hb3⟩
    have hB3 := hB2.trans (hb3.mono hB2.size)
    obtain ⟨s, hs⟩ : ∃ s : ByteArray, s = ⟨(Lib.join vs (⟨#[44, 32]⟩ : ByteArray).data.toList).toArray⟩ := ⟨_, rfl⟩
    rw [← hs]
    have hsl : s.data.toList = Lib.join vs [44, 32] := by rw [hs]
    have hss : s.size ≤ 1000000 := by rw [← lsize, hsl]; omega
    clear hs hb3
    go_wp2_with fail
    refine (list_any s _ hss).mono ?_
    rintro e w4 ⟨v4, rfl, O4, hb4⟩
    have hB4 := hB3.trans (hb4.mono hB3.size)
    have hb0 := hB3.size
    rw [hsl] at O4 ⊢
    clear hb4 hsl d0 hjl
    obtain ⟨R, hR⟩ : ∃ R, R = listB (Lib.join vs [44, 32]) := ⟨_, rfl⟩
    have hE := listB_e (Lib.join vs [44, 32])
    have hT := tagsV_cons hvn
    rw [← hR] at O4 hE hT ⊢
    clear hR
    obtain ⟨ra, re, rl⟩ := R
    dsimp only at O4 hE hT ⊢
    obtain ⟨A4, c4, hv4, hc40, hc41⟩ := O4.rd.form
    subst hv4
    by_cases h0 : re = 0
    · subst h0
      by_cases h32 : 32 < rl.length
      · have d32 : decide ((rl.length : Int) > 32) = true := decide_eq_true (by omega)
        have HX := hide (show tagsV vs = ⟨false, 4, []⟩ by rw [hT, if_pos ⟨by omega, h32⟩])
        clear hT hE
        go_wp2_with fail
        go_ret3
        exact ⟨_, ret_list (by rw [← HVS.out, HX.out]) (by rw [← HVS.out, HX.out]; rfl), by rw [← HVS.out, HX.out]; exact OwnL.nil _ _ _, hB4⟩
      · have d32 : decide ((rl.length : Int) > 32) = false := decide_eq_false (by omega)
        have HX := hide (show tagsV vs = ⟨ra, 0, rl⟩ by rw [hT, if_neg (by omega)])
        clear hT hE
        go_wp2_with fail
        go_ret3
        exact ⟨_, ret_list (by rw [← HVS.out, HX.out]) (by rw [← HVS.out, HX.out]; rfl), by rw [← HVS.out, HX.out]; exact O4.mono hb0, hB4⟩
    · have HX := hide (show tagsV vs = ⟨ra, re, rl⟩ by rw [hT, if_neg (by omega)])
      have HN := hide (hE.2.1 h0)
      clear hT hE
      go_wp2_with fail
      go_ret3
      exact ⟨_, ret_list (by rw [← HVS.out, HX.out]) (by rw [← HVS.out, HX.out]), by rw [← HVS.out, HX.out]; exact O4.mono hb0, hB4⟩

set_option maxRecDepth 100000 in
set_option maxHeartbeats 4000000 in
theorem rlist8_any (v : Value) (l : List FieldL) (n : ByteArray) (w : World) (hr : RdL LF w w.heap.size v l) (hz : ∀ f ∈ l, f.1.length ≤ 1000000) (hn : n.size ≤ 1000000) (hll : l.length ≤ 1000) (hsum : sumF l ≤ 900000) : Calls Tryd.prog 23 #[v, .string n] w (ListOk (tagsV (ofV l n.data.toList)) w) := by
  go_enter Tryd.func23, Tryd.ntmps23
  go_wp2_with fail
  refine (joined_any v l n _ hr hz hn hll hsum).mono ?_
  rintro e w3 ⟨s, hsl, rfl, hB3⟩
  obtain ⟨vs, hvs⟩ : ∃ vs, vs = ofV l n.data.toList := ⟨_, rfl⟩
  have hsz := of_sizes l n.data.toList hll hsum
  rw [← hvs] at hsl hsz ⊢
  have HVS := hide hvs
  clear hvs
  obtain ⟨hvl, hvsum⟩ := hsz
  by_cases hvn : vs = []
  · have d0 : decide (0 < vs.length) = false := by apply decide_eq_false; rw [hvn]; simp
    have HX := hide (show tagsV vs = ⟨false, 0, []⟩ by rw [hvn]; rfl)
    clear hvn
    rw [d0]
    go_wp2_with fail
    go_ret3
    exact ⟨_, ret_list (by rw [← HVS.out, HX.out]) (by rw [← HVS.out, HX.out]; rfl), by rw [← HVS.out, HX.out]; exact OwnL.nil _ _ _, hB3⟩
  · have d0 : decide (0 < vs.length) = true := by apply decide_eq_true; exact List.length_pos_iff.2 hvn
    rw [d0]
    have hjl := join_sum vs [44, 32]
    have hj2 : ([44, 32] : Bs).length = 2 := rfl
    rw [hj2] at hjl
    have hss : s.size ≤ 1000000 := by rw [← lsize, hsl]; omega
    go_wp2_with fail
    refine (rlist_any s _ hss).mono ?_
    rintro e w4 ⟨v4, rfl, O4, hb4⟩
    have hB4 := hB3.trans (hb4.mono hB3.size)
    have hb0 := hB3.size
    rw [hsl] at O4 ⊢
    clear hb4 hsl d0 hjl
    obtain ⟨R, hR⟩ : ∃ R, R = listB (Lib.join vs [44, 32]) := ⟨_, rfl⟩
    have hE := listB_e (Lib.join vs [44, 32])
    have hT := tagsV_cons hvn
    rw [← hR] at O4 hE hT ⊢
    clear hR
    obtain ⟨ra, re, rl⟩ := R
    dsimp only at O4 hE hT ⊢
    obtain ⟨A4, c4, hv4, hc40, hc41⟩ := O4.rd.form
    subst hv4
    by_cases h0 : re = 0
    · subst h0
      by_cases h32 : 32 < rl.length
      · have d32 : decide ((rl.length : Int) > 32) = true := decide_eq_true (by omega)
        have HX := hide (show tagsV vs = ⟨false, 4, []⟩ by rw [hT, if_pos ⟨by omega, h32⟩])
        clear hT hE
        go_wp2_with fail
        go_ret3
        exact ⟨_, ret_list (by rw [← HVS.out, HX.out]) (by rw [← HVS.out, HX.out]; rfl), by rw [← HVS.out, HX.out]; exact OwnL.nil _ _ _, hB4⟩
      · have d32 : decide ((rl.length : Int) > 32) = false := decide_eq_false (by omega)
        have HX := hide (show tagsV vs = ⟨ra, 0, rl⟩ by rw [hT, if_neg (by omega)])
        clear hT hE
        go_wp2_with fail
        go_ret3
        exact ⟨_, ret_list (by rw [← HVS.out, HX.out]) (by rw [← HVS.out, HX.out]; rfl), by rw [← HVS.out, HX.out]; exact O4.mono hb0, hB4⟩
    · have HX := hide (show tagsV vs = ⟨ra, re, rl⟩ by rw [hT, if_neg (by omega)])
      have HN := hide (hE.2.1 h0)
      clear hT hE
      go_wp2_with fail
      go_ret3
      exact ⟨_, ret_list (by rw [← HVS.out, HX.out]; exact HN.out.1) (by rw [← HVS.out, HX.out]), by rw [← HVS.out, HX.out]; exact (show rl = [] from HN.out.2) ▸ OwnL.nil _ _ _, hB4⟩

def TickOk (vs : List Bs) (w : World) (e : Ending) (w' : World) : Prop := ∃ t : Int, e = .returned (.int .i64 t) ∧ TickIs vs t ∧ Below w.heap.size w w'

set_option maxRecDepth 100000 in
set_option maxHeartbeats 4000000 in
theorem ctick_any (v : Value) (l : List FieldL) (n : ByteArray) (w : World) (hr : RdL LF w w.heap.size v l) (hz : ∀ f ∈ l, f.1.length ≤ 1000000) (hn : n.size ≤ 1000000) (hll : l.length ≤ 1000) (hsum : sumF l ≤ 900000) : Calls Tryd.prog 20 #[v, .string n] w (TickOk (ofV l n.data.toList) w) := by
  have HM := hide (fun x (hx : x ∈ ofV l n.data.toList) => (show x.length ≤ 900000 by obtain ⟨f, hf, rfl⟩ := ofV_mem hx; have := sumF_mem hf; omega))
  go_enter Tryd.func20, Tryd.ntmps20
  go_wp2_with fail
  refine (fget_any v l n _ hr hz hn (by omega)).mono ?_
  rintro e w2 ⟨rfl, hB2⟩
  obtain ⟨vs, hvs⟩ : ∃ vs, vs = ofV l n.data.toList := ⟨_, rfl⟩
  rw [← hvs] at HM ⊢
  have HVS := hide hvs
  clear hvs
  cases hh : vs.head? with
  | none =>
    have HX := hide (show vs = [] from List.head?_eq_none_iff.1 hh)
    clear hh
    simp only [Option.getD_none, Option.isSome_none]
    go_wp2_with fail
    go_ret
    exact ⟨_, rfl, .inl ⟨by rw [← HVS.out, HX.out], rfl⟩, hB2⟩
  | some x =>
    have HH := hide hh
    simp only [Option.getD_some, Option.isSome_some]
    obtain ⟨s, hs⟩ : ∃ s : ByteArray, s = ⟨x.toArray⟩ := ⟨_, rfl⟩
    rw [← hs]
    have hsz : s.size ≤ 9223372036854775807 := by have := HM.out x (List.mem_of_mem_head? hh); rw [← lsize, hs]; show x.length ≤ _; omega
    have HS := hide hs
    clear hs hh
    go_wp2_with fail
    refine (dparse_any s _ hsz).mono ?_
    rintro e w3 (⟨t, h0, h1, ht, rfl, hb3⟩ | ⟨ht, rfl, hb3⟩)
    · have hB3 := hB2.trans (hb3.mono hB2.size)
      have HT := hide ht
      clear ht
      go_wp2_with fail
      go_ret
      exact ⟨_, rfl, .inr ⟨x, by rw [← HVS.out]; exact HH.out, .inl ⟨h0, h1, by rw [← HS.out]; exact HT.out⟩⟩, hB3⟩
    · have hB3 := hB2.trans (hb3.mono hB2.size)
      have HT := hide ht
      clear ht
      go_wp2_with fail
      go_ret
      exact ⟨_, rfl, .inr ⟨x, by rw [← HVS.out]; exact HH.out, .inr ⟨rfl, by rw [← HS.out]; exact HT.out⟩⟩, hB3⟩

set_option maxRecDepth 100000 in
set_option maxHeartbeats 4000000 in
theorem rdate_any (v : Value) (l : List FieldL) (n : ByteArray) (w : World) (hr : RdL LF w w.heap.size v l) (hz : ∀ f ∈ l, f.1.length ≤ 1000000) (hn : n.size ≤ 1000000) (hll : l.length ≤ 1000) (hsum : sumF l ≤ 900000) : Calls Tryd.prog 24 #[v, .string n] w (TickOk (ofV l n.data.toList) w) := by
  have HM := hide (fun x (hx : x ∈ ofV l n.data.toList) => (show x.length ≤ 900000 by obtain ⟨f, hf, rfl⟩ := ofV_mem hx; have := sumF_mem hf; omega))
  go_enter Tryd.func24, Tryd.ntmps24
  go_wp2_with fail
  refine (rof7_any v l n _ hr hz hn (by omega)).mono ?_
  rintro e w2 ⟨v2, rfl, O2, hB2⟩
  obtain ⟨vs, hvs⟩ : ∃ vs, vs = ofV l n.data.toList := ⟨_, rfl⟩
  rw [← hvs] at HM O2
  have HVS := hide hvs
  clear hvs
  obtain ⟨A2, c2, hv2, hc20, hc21⟩ := O2.rd.form
  subst hv2
  by_cases hvn : vs = []
  · have d0 : ((vs.length : Int) == 0) = true := by rw [beq_iff_eq, hvn]; rfl
    have HX := hide hvn
    clear hvn
    go_wp2_with fail
    go_ret
    exact ⟨_, rfl, .inl ⟨by rw [← HVS.out, HX.out], rfl⟩, hB2⟩
  · have hlt : 0 < vs.length := List.length_pos_iff.2 hvn
    have d0 : ((vs.length : Int) == 0) = false := by rw [beq_eq_false_iff_ne]; omega
    obtain ⟨b0, off, hA, hbl, c0⟩ := O2.rd.text 0 hlt
    subst hA
    obtain ⟨s, hs⟩ : ∃ s : ByteArray, s = ⟨vs[0].toArray⟩ := ⟨_, rfl⟩
    rw [← hs] at c0
    have c0' : w2.cell? ⟨b0, off, none⟩ = some (.string s) := c0
    have hsz : s.size ≤ 9223372036854775807 := by have := HM.out vs[0] (List.getElem_mem hlt); rw [← lsize, hs]; show vs[0].length ≤ _; omega
    have HS := hide hs
    have HH := hide (show vs.head? = some vs[0] by rw [List.head?_eq_getElem?, List.getElem?_eq_getElem hlt])
    clear hs hvn
    have g0 : (0 : Int) < (vs.length : Int) := by omega
    go_wp2_with fail
    refine (drparse_any s _ hsz).mono ?_
    rintro e w3 (⟨t, h0, h1, ht, rfl, hb3⟩ | ⟨ht, rfl, hb3⟩)
    · have hB3 := hB2.trans (hb3.mono hB2.size)
      have HT := hide ht
      clear ht
      go_wp2_with fail
      go_ret
      exact ⟨_, rfl, .inr ⟨_, by rw [← HVS.out]; exact HH.out, .inl ⟨h0, h1, by rw [← HS.out]; exact HT.out⟩⟩, hB3⟩
    · have hB3 := hB2.trans (hb3.mono hB2.size)
      have HT := hide ht
      clear ht
      go_wp2_with fail
      go_ret
      exact ⟨_, rfl, .inr ⟨_, by rw [← HVS.out]; exact HH.out, .inr ⟨rfl, by rw [← HS.out]; exact HT.out⟩⟩, hB3⟩

end Go.Proofs.YtkmheoolekookaaDoor
