/-
  Lists of tags: great, the same.
-/
import Derived.Test.YtnipbhmacfnjfaaDoorTagS
import Derived.Test.YtnipbhmacfnjfaaDoorQuiet
import Derived.Deep.DeepCutAuto
namespace Go.Proofs.YtnipbhmacfnjfaaDoor
open Go.RowKit
set_option linter.unusedVariables false
set_option linter.unusedSimpArgs false

/-- A list that isn't great is small. -/
def GreatOk (ts : List TagL) (w : World) (e : Ending) (w' : World) : Prop := ∃ b, e = .returned (.bool b) ∧ w = w' ∧ (b = false → ts.length ≤ 400 ∧ ∀ t ∈ ts, t.1.length ≤ 400)

set_option maxHeartbeats 2000000 in
theorem great_any (v : Value) (ts : List TagL) (w : World) (hr : RdL LT w w.heap.size v ts) (hz : ∀ t ∈ ts, t.1.length ≤ 140737488355328) : Calls Tryd.prog 18 #[v] w (GreatOk ts w) := by
  obtain ⟨A, c, rfl, hlc, hcm⟩ := hr.form
  have hlen := hr.len
  go_enter Tryd.func18, Tryd.ntmps18
  go_wp2_with fail
  go_loop [3, 4] (fun c3 c4 => ∃ (k n : Nat), k ≤ ts.length ∧ k ≤ n ∧ n ≤ 400 + 1 + 140737488355328 ∧ c4 = .int .i64 (k : Int) ∧ c3 = .int .i64 (n : Int) ∧ Hid (∀ i (h : i < ts.length), i < k → ts[i].1.length ≤ n)) (fun c3 c4 => ts.length - (intOf c4).toNat)
  case atStart => exact ⟨0, 0, Nat.zero_le _, Nat.le_refl _, by omega, rfl, rfl, fun i _ h => absurd h (Nat.not_lt_zero i)⟩
  case round =>
    obtain ⟨k, n, hk, hkn, hn, rfl, rfl, HN⟩ := hrel
    have hn5 : (n : Int) ≤ 1000000000000000 := by omega
    by_cases hlt : k < ts.length
    · by_cases h4 : n ≤ 400
      · obtain ⟨b0, off, hA, hb0, hcell⟩ := hr.at_ k hlt
        subst hA
        have hc0 : w.cell? ⟨b0, off + k * 2, none⟩ = some (.string ⟨ts[k].1.toArray⟩) := by simpa [LT] using hcell 0 _ rfl
        clear hcell
        obtain ⟨x, hx⟩ : ∃ x : ByteArray, x = ⟨ts[k].1.toArray⟩ := ⟨_, rfl⟩
        rw [← hx] at hc0
        have hxl : x.size = ts[k].1.length := by rw [hx]; simp [ByteArray.size]
        have hxs : x.size ≤ 140737488355328 := by rw [hxl]; exact hz _ (List.getElem_mem hlt)
        have HXL := hide hxl
        clear hx hxl
        have hs := hide (show ∀ i (h : i < ts.length), i < k + 1 → ts[i].1.length ≤ n + 1 + x.size from fun i h hik => by
          rcases Nat.lt_or_ge i k with h' | h'
          · have := HN.out i h h'; omega
          · obtain rfl : i = k := by omega
            rw [HXL.out]; omega)
        have d4 : decide ((n : Int) ≤ 400) = true := decide_eq_true (by omega)
        go_wp2_with fail
        go_round
        case rel => exact ⟨k + 1, n + 1 + x.size, by omega, by omega, by omega, by go_num, by go_num, hs⟩
        case measure => simp [intOf] <;> omega
      · have d4 : decide ((n : Int) ≤ 400) = false := decide_eq_false (by omega)
        have d5 : decide ((n : Int) > 400) = true := decide_eq_true (by omega)
        go_wp2_with fail
        go_ret
        exact ⟨true, rfl, rfl, fun h => by cases h⟩
    · go_wp2_with fail
      go_ret
      refine ⟨_, rfl, rfl, fun h => ?_⟩
      have h4 : ¬ (400 : Int) < (n : Int) := of_decide_eq_false h
      refine ⟨by omega, fun t ht => ?_⟩
      obtain ⟨i, hi, rfl⟩ := List.getElem_of_mem ht
      have := HN.out i hi (by omega)
      omega

theorem same_take {a b : List TagL} {k : Nat} (h : a.take k = b.take k) (h1 : k < a.length) (h2 : k < b.length) (he : a[k] = b[k]) : a.take (k + 1) = b.take (k + 1) := by
  rw [List.take_succ_eq_append_getElem h1, List.take_succ_eq_append_getElem h2, h, he]

set_option maxHeartbeats 2000000 in
theorem same_any (v1 v2 : Value) (l1 l2 : List TagL) (w : World) (hr1 : RdL LT w w.heap.size v1 l1) (hr2 : RdL LT w w.heap.size v2 l2) : Calls Tryd.prog 25 #[v1, v2] w (BoolOk (decide (l1 = l2)) w) := by
  obtain ⟨A1, c1, rfl, hlc1, hcm1⟩ := hr1.form
  obtain ⟨A2, c2, rfl, hlc2, hcm2⟩ := hr2.form
  have hlen1 := hr1.len
  have hlen2 := hr2.len
  by_cases hl : l1.length = l2.length
  · have d0 : ((l1.length : Int) != (l2.length : Int)) = false := by simp [bne, hl]
    have HL := hide hl
    have hle : l1.length ≤ l2.length := by omega
    have hge : l2.length ≤ l1.length := by omega
    clear hl
    go_enter Tryd.func25, Tryd.ntmps25
    go_wp2_with fail
    go_loopw [5] (fun c5 wr => ∃ k : Nat, k ≤ l1.length ∧ c5 = .int .i64 (k : Int) ∧ Hid (l1.take k = l2.take k) ∧ Below w.heap.size w wr) (fun c5 _ => l1.length - (intOf c5).toNat)
    case atStart => exact ⟨0, Nat.zero_le _, rfl, (show List.take 0 l1 = List.take 0 l2 by simp), Below.refl _ _⟩
    case round =>
      obtain ⟨k, hk, rfl, HT, hbel⟩ := hrel
      by_cases hlt : k < l1.length
      · have hlt2 : k < l2.length := by omega
        obtain ⟨b1, off1, hA1, hb1, hcell⟩ := hr1.at_ k hlt
        subst hA1
        have hc10 : wr.cell? ⟨b1, off1 + k * 2, none⟩ = some (.string ⟨l1[k].1.toArray⟩) := by rw [hbel.cell (by show b1 < _; omega)]; simpa [LT] using hcell 0 _ rfl
        have hc11 : wr.cell? ⟨b1, off1 + k * 2 + 1, none⟩ = some (.bool l1[k].2) := by rw [hbel.cell (by show b1 < _; omega)]; simpa [LT] using hcell 1 _ rfl
        clear hcell
        obtain ⟨b2, off2, hA2, hb2, hcell⟩ := hr2.at_ k hlt2
        subst hA2
        have hc20 : wr.cell? ⟨b2, off2 + k * 2, none⟩ = some (.string ⟨l2[k].1.toArray⟩) := by rw [hbel.cell (by show b2 < _; omega)]; simpa [LT] using hcell 0 _ rfl
        have hc21 : wr.cell? ⟨b2, off2 + k * 2 + 1, none⟩ = some (.bool l2[k].2) := by rw [hbel.cell (by show b2 < _; omega)]; simpa [LT] using hcell 1 _ rfl
        clear hcell
        have g1 : (0 : Int) ≤ (k : Int) := by omega
        have g2 : (k : Int) < (l1.length : Int) := by omega
        have g3 : (k : Int) < (l2.length : Int) := by omega
        obtain ⟨x, hx⟩ : ∃ x : ByteArray, x = ⟨l1[k].1.toArray⟩ := ⟨_, rfl⟩
        obtain ⟨y, hy⟩ : ∃ x : ByteArray, x = ⟨l2[k].1.toArray⟩ := ⟨_, rfl⟩
        obtain ⟨p, hp⟩ : ∃ p, p = l1[k].2 := ⟨_, rfl⟩
        obtain ⟨q, hq⟩ : ∃ p, p = l2[k].2 := ⟨_, rfl⟩
        rw [← hx] at hc10
        rw [← hy] at hc20
        rw [← hp] at hc11
        rw [← hq] at hc21
        have m10 : ∀ n, (wr.drewN n).cell? ⟨b1, off1 + k * 2, none⟩ = some (.string x) := fun n => hc10
        have m11 : ∀ n, (wr.drewN n).cell? ⟨b1, off1 + k * 2 + 1, none⟩ = some (.bool p) := fun n => hc11
        have m20 : ∀ n, (wr.drewN n).cell? ⟨b2, off2 + k * 2, none⟩ = some (.string y) := fun n => hc20
        have m21 : ∀ n, (wr.drewN n).cell? ⟨b2, off2 + k * 2 + 1, none⟩ = some (.bool q) := fun n => hc21
        have hE : (l1[k] = l2[k]) ↔ (x.toList == y.toList) = true ∧ p = q := by
          rw [ByteArray.toList_eq, ByteArray.toList_eq, hx, hy, hp, hq, beq_iff_eq]
          exact Prod.ext_iff
        have HE := hide hE
        clear hE hx hy hp hq hc10 hc11 hc20 hc21
        cases hxy : (x.toList == y.toList)
        · have HX := hide (show ¬ l1 = l2 from fun e => by subst e; have := (HE.out.1 rfl).1; rw [hxy] at this; cases this)
          go_wp2_with fail
          go_quiet (fail)
          go_wp2_with fail
          go_ret
          exact ⟨ret_bool (decide_eq_false HX.out).symm, below_drewN hbel _⟩
        · cases p <;> cases q
          case false.false =>
            have HX := hide (same_take HT.out hlt hlt2 (HE.out.2 ⟨hxy, rfl⟩))
            go_wp2_with fail
            go_quiet (fail)
            go_wp2_with fail
            go_roundw
            case rel => exact ⟨k + 1, by omega, by go_num, HX, below_drewN hbel _⟩
            case measure => simp [intOf] <;> omega
          case true.true =>
            have HX := hide (same_take HT.out hlt hlt2 (HE.out.2 ⟨hxy, rfl⟩))
            go_wp2_with fail
            go_quiet (fail)
            go_wp2_with fail
            go_roundw
            case rel => exact ⟨k + 1, by omega, by go_num, HX, below_drewN hbel _⟩
            case measure => simp [intOf] <;> omega
          case false.true =>
            have HX := hide (show ¬ l1 = l2 from fun e => by subst e; have := (HE.out.1 rfl).2; cases this)
            go_wp2_with fail
            go_quiet (fail)
            go_wp2_with fail
            go_ret
            exact ⟨ret_bool (decide_eq_false HX.out).symm, below_drewN hbel _⟩
          case true.false =>
            have HX := hide (show ¬ l1 = l2 from fun e => by subst e; have := (HE.out.1 rfl).2; cases this)
            go_wp2_with fail
            go_quiet (fail)
            go_wp2_with fail
            go_ret
            exact ⟨ret_bool (decide_eq_false HX.out).symm, below_drewN hbel _⟩
      · have HX := hide (show l1 = l2 by
          have := HT.out
          rwa [List.take_of_length_le (by omega), List.take_of_length_le (by omega)] at this)
        go_wp2_with fail
        go_ret
        exact ⟨ret_bool (decide_eq_true HX.out).symm, hbel⟩
  · have d0 : ((l1.length : Int) != (l2.length : Int)) = true := by simp [bne]; omega
    have HX := hide (show ¬ l1 = l2 from fun e => hl (by rw [e]))
    clear hl
    go_enter Tryd.func25, Tryd.ntmps25
    go_wp2_with fail
    go_ret
    exact ⟨ret_bool (decide_eq_false HX.out).symm, Below.refl _ _⟩

set_option maxHeartbeats 4000000 in
theorem rtag_in (v : Value) (ts : List Tag) (s : ByteArray) (a st : Bool) (w : World) (hs : s.size ≤ 9223372036854775807) (hr : RdTags w w.heap.size v ts) : Calls Tryd.prog 31 #[v, .agg #[.string s, .bool a], .bool st] w (BoolOk (inB ts (s, a) st) w) := by
  obtain ⟨h0, hz, A, c, rfl, hc⟩ := hr
  go_enter Tryd.func31, Tryd.ntmps31
  go_wp2_with fail
  have h1 : Below w.heap.size w (w.alloc (.cells #[.string s, .bool a] 23)) := (Below.refl _ _).alloc (Nat.le_refl _) _
  go_loopw [7] (fun i wr => ∃ k : Nat, k ≤ ts.length ∧ i = .int .i64 k ∧ (ts.take k).any (fun x => if st = true then strongB x (s, a) else weakB x (s, a)) = false ∧ Below (w.heap.size + 1) (w.alloc (.cells #[.string s, .bool a] 23)) wr) (fun i _ => ts.length - (intOf i).toNat)
  case atStart => exact ⟨0, Nat.zero_le _, rfl, rfl, Below.refl _ _⟩
  case round =>
    obtain ⟨k, hk, rfl, ha, hb⟩ := hrel
    have HA := hide ha
    have hbz : w.heap.size + 1 ≤ wr.heap.size := by simpa using hb.size
    clear ha
    by_cases hlt : k < ts.length
    · obtain ⟨b, off, rfl, hbl, c1, c2⟩ := hc k hlt
      have hsz' := hz ts[k] (List.getElem_mem hlt)
      have d1 : wr.cell? ⟨b, off + k * 2, none⟩ = some (.string ts[k].1) := by rw [hb.cell (by show b < _; omega), (h1.cell hbl)]; exact c1
      have d2 : wr.cell? ⟨b, off + k * 2 + 1, none⟩ = some (.bool ts[k].2) := by rw [hb.cell (by show b < _; omega), (h1.cell hbl)]; exact c2
      have d3 : wr.cell? ⟨w.heap.size, 0, none⟩ = some (.string s) := by rw [hb.cell (by simp)]; simp [go_sem]
      have d4 : wr.cell? ⟨w.heap.size, 1, none⟩ = some (.bool a) := by rw [hb.cell (by simp)]; simp [go_sem]
      obtain ⟨s1, hs1⟩ : ∃ x, x = ts[k].1 := ⟨_, rfl⟩
      obtain ⟨b1, hb1⟩ : ∃ x, x = ts[k].2 := ⟨_, rfl⟩
      rw [← hs1] at d1 hsz'
      rw [← hb1] at d2
      have hsz := hsz'
      have HS1 := hide (show ts[k] = (s1, b1) by rw [hs1, hb1])
      clear hs1 hb1 hsz'
      have z1 : b < wr.heap.size := by have := hb.size; simp at this; omega
      have z2 : w.heap.size < wr.heap.size := by have := hb.size; simp at this; omega
      have q1 : ∀ x : Bel wr.heap.size wr, x.w.cell? ⟨b, off + k * 2, none⟩ = some (.string s1) := fun x => x.cell d1 z1
      have q2 : ∀ x : Bel wr.heap.size wr, x.w.cell? ⟨b, off + k * 2 + 1, none⟩ = some (.bool b1) := fun x => x.cell d2 z1
      have q3 : ∀ x : Bel wr.heap.size wr, x.w.cell? ⟨w.heap.size, 0, none⟩ = some (.string s) := fun x => x.cell d3 z2
      have q4 : ∀ x : Bel wr.heap.size wr, x.w.cell? ⟨w.heap.size, 1, none⟩ = some (.bool a) := fun x => x.cell d4 z2
      have g1 : (0 : Int) ≤ (k : Int) := by omega
      have g2 : (k : Int) < (ts.length : Int) := by omega
      clear c1 c2 hc hz
      cases st
      · cases hm : weakB ts[k] (s, a)
        · have hx := hide (show (ts.take (k + 1)).any (fun x => if false = true then strongB x (s, a) else weakB x (s, a)) = false by
            rw [List.take_succ_eq_append_getElem hlt, List.any_append, HA.out]; simpa using hm)
          have HM := hide (show weakB (s1, b1) (s, a) = false by rw [← HS1.out]; exact hm)
          clear hm
          go_upto_region 4 with fail
          have CS : ∀ W : World, Calls Tryd.prog 27 #[.agg #[.string s1, .bool b1], .agg #[.string s, .bool a]] W fun e w' => e = .returned (.bool (strongB (s1, b1) (s, a))) ∧ Below W.heap.size W w' := fun W => (rtag_strong s1 s b1 a W hsz hs).mono fun e w' h => h
          have CW : ∀ W : World, Calls Tryd.prog 29 #[.agg #[.string s1, .bool b1], .agg #[.string s, .bool a]] W fun e w' => e = .returned (.bool (weakB (s1, b1) (s, a))) ∧ Below W.heap.size W w' := fun W => (rtag_weak s1 s b1 a W hsz hs).mono fun e w' h => h
          rw [HM.out] at CW
          have HC := hide CW
          clear CS CW
          refine wp_region_bel wr.heap.size (by kernel_rfl) (by kernel_rfl) ?_
          repeat (go_big_quiet_step ((first | (go_at_call 27; exact bel_call (Nat.le_refl _) (HC.out _)) | (go_at_call 29; exact bel_call (Nat.le_refl _) (HC.out _)))))
          refine wpQuiet_nil ?_
          rintro w9 ⟨⟨_, hb9⟩, rfl⟩
          have hB9 := hb.trans (hb9.mono hbz)
          clear q1 q2 q3 q4
          go_wp2_with fail
          go_roundw
          case rel => exact ⟨k + 1, by omega, by go_num, hx.out, hB9⟩
          case measure => simp [intOf] <;> omega
        · have hx := hide (show inB ts (s, a) false = true by unfold inB; rw [List.any_eq_true]; exact ⟨ts[k], List.getElem_mem hlt, by simpa using hm⟩)
          have HM := hide (show weakB (s1, b1) (s, a) = true by rw [← HS1.out]; exact hm)
          clear hm
          go_upto_region 4 with fail
          have CS : ∀ W : World, Calls Tryd.prog 27 #[.agg #[.string s1, .bool b1], .agg #[.string s, .bool a]] W fun e w' => e = .returned (.bool (strongB (s1, b1) (s, a))) ∧ Below W.heap.size W w' := fun W => (rtag_strong s1 s b1 a W hsz hs).mono fun e w' h => h
          have CW : ∀ W : World, Calls Tryd.prog 29 #[.agg #[.string s1, .bool b1], .agg #[.string s, .bool a]] W fun e w' => e = .returned (.bool (weakB (s1, b1) (s, a))) ∧ Below W.heap.size W w' := fun W => (rtag_weak s1 s b1 a W hsz hs).mono fun e w' h => h
          rw [HM.out] at CW
          have HC := hide CW
          clear CS CW
          refine wp_region_bel wr.heap.size (by kernel_rfl) (by kernel_rfl) ?_
          repeat (go_big_quiet_step ((first | (go_at_call 27; exact bel_call (Nat.le_refl _) (HC.out _)) | (go_at_call 29; exact bel_call (Nat.le_refl _) (HC.out _)))))
          refine wpQuiet_nil ?_
          rintro w9 ⟨⟨_, hb9⟩, rfl⟩
          have hB9 := hb.trans (hb9.mono hbz)
          clear q1 q2 q3 q4
          go_wp2_with fail
          go_ret
          exact ⟨ret_bool hx.out.symm, h1.trans (hB9.mono (by omega))⟩
      · cases hm : strongB ts[k] (s, a)
        · have hx := hide (show (ts.take (k + 1)).any (fun x => if true = true then strongB x (s, a) else weakB x (s, a)) = false by
            rw [List.take_succ_eq_append_getElem hlt, List.any_append, HA.out]; simpa using hm)
          have HM := hide (show strongB (s1, b1) (s, a) = false by rw [← HS1.out]; exact hm)
          clear hm
          go_upto_region 4 with fail
          have CS : ∀ W : World, Calls Tryd.prog 27 #[.agg #[.string s1, .bool b1], .agg #[.string s, .bool a]] W fun e w' => e = .returned (.bool (strongB (s1, b1) (s, a))) ∧ Below W.heap.size W w' := fun W => (rtag_strong s1 s b1 a W hsz hs).mono fun e w' h => h
          have CW : ∀ W : World, Calls Tryd.prog 29 #[.agg #[.string s1, .bool b1], .agg #[.string s, .bool a]] W fun e w' => e = .returned (.bool (weakB (s1, b1) (s, a))) ∧ Below W.heap.size W w' := fun W => (rtag_weak s1 s b1 a W hsz hs).mono fun e w' h => h
          rw [HM.out] at CS
          have HC := hide CS
          clear CS CW
          refine wp_region_bel wr.heap.size (by kernel_rfl) (by kernel_rfl) ?_
          repeat (go_big_quiet_step ((first | (go_at_call 27; exact bel_call (Nat.le_refl _) (HC.out _)) | (go_at_call 29; exact bel_call (Nat.le_refl _) (HC.out _)))))
          refine wpQuiet_nil ?_
          rintro w9 ⟨⟨_, hb9⟩, rfl⟩
          have hB9 := hb.trans (hb9.mono hbz)
          clear q1 q2 q3 q4
          go_wp2_with fail
          go_roundw
          case rel => exact ⟨k + 1, by omega, by go_num, hx.out, hB9⟩
          case measure => simp [intOf] <;> omega
        · have hx := hide (show inB ts (s, a) true = true by unfold inB; rw [List.any_eq_true]; exact ⟨ts[k], List.getElem_mem hlt, by simpa using hm⟩)
          have HM := hide (show strongB (s1, b1) (s, a) = true by rw [← HS1.out]; exact hm)
          clear hm
          go_upto_region 4 with fail
          have CS : ∀ W : World, Calls Tryd.prog 27 #[.agg #[.string s1, .bool b1], .agg #[.string s, .bool a]] W fun e w' => e = .returned (.bool (strongB (s1, b1) (s, a))) ∧ Below W.heap.size W w' := fun W => (rtag_strong s1 s b1 a W hsz hs).mono fun e w' h => h
          have CW : ∀ W : World, Calls Tryd.prog 29 #[.agg #[.string s1, .bool b1], .agg #[.string s, .bool a]] W fun e w' => e = .returned (.bool (weakB (s1, b1) (s, a))) ∧ Below W.heap.size W w' := fun W => (rtag_weak s1 s b1 a W hsz hs).mono fun e w' h => h
          rw [HM.out] at CS
          have HC := hide CS
          clear CS CW
          refine wp_region_bel wr.heap.size (by kernel_rfl) (by kernel_rfl) ?_
          repeat (go_big_quiet_step ((first | (go_at_call 27; exact bel_call (Nat.le_refl _) (HC.out _)) | (go_at_call 29; exact bel_call (Nat.le_refl _) (HC.out _)))))
          refine wpQuiet_nil ?_
          rintro w9 ⟨⟨_, hb9⟩, rfl⟩
          have hB9 := hb.trans (hb9.mono hbz)
          clear q1 q2 q3 q4
          go_wp2_with fail
          go_ret
          exact ⟨ret_bool hx.out.symm, h1.trans (hB9.mono (by omega))⟩
    · have hx := hide (show inB ts (s, a) st = false by have := HA.out; rw [List.take_of_length_le (by omega)] at this; exact this)
      go_wp2_with fail
      go_ret
      exact ⟨ret_bool hx.out.symm, h1.trans (hb.mono (by omega))⟩

end Go.Proofs.YtnipbhmacfnjfaaDoor
