/-
  Merged: MetC, MetD, MetE.
-/
import Derived.Test.YtmelcndflllgmaaGreatDoorMetaA
import Derived.Test.YtmelcndflllgmaaGreatDoorMetaB
import Derived.Test.YtmelcndflllgmaaGreatDoorGrTa
import Derived.Test.YtmelcndflllgmaaGreatDoorGrFl
import Derived.Deep.RegionHeld3
import Derived.Deep.DeepCutAuto
namespace Go.Proofs.YtmelcndflllgmaaGreatDoor
open Go.RowKit
set_option linter.unusedVariables false
set_option linter.unusedSimpArgs false

def joinsB (mt : ByteArray) (mk : Bool) : Bool := tagOk mt && !mk
/-- May be known behind it. -/
def followsB (mt : ByteArray) (mk : Bool) (md ln hv fr wh er : Int) (ks : List ByteArray) (tn : ByteArray) (mt2 : ByteArray) (mk2 : Bool) (md2 ln2 hv2 fr2 wh2 er2 : Int) (ks2 : List ByteArray) (tn2 : ByteArray) : Bool :=
  metaOk mt mk md ln hv fr wh er ks tn && (metaOk mt2 mk2 md2 ln2 hv2 fr2 wh2 er2 ks2 tn2 && (joinsB mt mk && (strongB (mt, mk) (mt2, mk2) && ((md == md2) && (if ln = -1 then decide (hv ≤ hv2) else (ln == ln2))))))

set_option maxRecDepth 100000 in
set_option maxHeartbeats 2000000 in
theorem joins_any (mt : ByteArray) (mk : Bool) (md ln hv fr wh er : Int) (kv : Value) (tn : ByteArray) (kp : Bool) (w : World) (hmt : mt.size ≤ 9223372036854775807) : Calls Tryz.prog 16 #[.agg #[.string mt, .bool mk, .int .i64 md, .int .i64 ln, .int .i64 hv, .int .i64 fr, .int .i64 wh, .int .i64 er, kv, .string tn, .bool kp]] w (BoolOk (joinsB mt mk) w) := by
  go_enter Tryz.func16, Tryz.ntmps16
  go_wp2_with fail
  obtain ⟨w1, hw1⟩ : ∃ w1 : World, w1 = (w).alloc (.cells #[.string mt, .bool mk, .int .i64 md, .int .i64 ln, .int .i64 hv, .int .i64 fr, .int .i64 wh, .int .i64 er, kv, .string tn, .bool kp] 29) := ⟨_, rfl⟩
  rw [← hw1]
  have hB1 : Below w.heap.size w w1 := by rw [hw1]; exact ((Below.refl _ _).alloc (Nat.le_refl _) _)
  have T : Blk w1 (w.heap.size) 29 #[.string mt, .bool mk, .int .i64 md, .int .i64 ln, .int .i64 hv, .int .i64 fr, .int .i64 wh, .int .i64 er, kv, .string tn, .bool kp] := by rw [hw1]; exact (Blk.new _ _ _)
  clear hw1
  have cT := T.cell
  refine (tag_right mt mk _ hmt).mono ?_
  rintro e w2 ⟨rfl, hb2⟩
  have hB2 := hB1.trans (hb2.mono hB1.size)
  replace T := T.below hb2 T.lt
  clear cT hb2
  have cT := T.cell
  cases hq : tagOk mt
  · have HQ := hide hq
    clear hq
    go_wp2_with fail
    go_ret
    exact ⟨ret_bool (by unfold joinsB; rw [HQ.out]; rfl), hB2⟩
  · have HQ := hide hq
    clear hq
    go_wp2_with fail
    go_ret
    exact ⟨ret_bool (by unfold joinsB; rw [HQ.out]; rfl), hB2⟩

theorem meta_nums_of {mt : ByteArray} {mk : Bool} {md ln hv fr wh er : Int} {ks : List ByteArray} {tn : ByteArray} (h : metaOk mt mk md ln hv fr wh er ks tn = true) : -1 ≤ md ∧ md ≤ 253402300799 ∧ -1 ≤ ln ∧ ln ≤ 1099511627776 ∧ 0 ≤ hv ∧ hv ≤ 1099511627776 ∧ (ln = -1 ∨ hv = ln) := by
  unfold metaOk at h
  simp only [Bool.and_eq_true] at h
  have := h.2.1
  unfold numsOk at this
  simpa only [decide_eq_true_eq] using this

end Go.Proofs.YtmelcndflllgmaaGreatDoor
namespace Go.Proofs.YtmelcndflllgmaaGreatDoor
open Go.RowKit
set_option linter.unusedVariables false
set_option linter.unusedSimpArgs false

/-- Do statements take it? -/
def smallB (mt : ByteArray) (ks : List ByteArray) (tn : ByteArray) : Bool := (decide (mt.size ≤ 200) && (decide (ks.length ≤ 40) && decide (tn.size ≤ 100))) && ks.all fun k => decide (k.size ≤ 300)
def SmallTo (ks : List ByteArray) (k : Nat) : Prop := ∀ i (h : i < ks.length), i < k → ks[i].size ≤ 300
theorem small_end {mt : ByteArray} {ks : List ByteArray} {tn : ByteArray} {k : Nat} (h1 : ¬ 200 < mt.size) (h2 : ¬ 40 < ks.length) (h3 : ¬ 100 < tn.size) (hk : ks.length ≤ k) (h : SmallTo ks k) : smallB mt ks tn = true := by
  unfold smallB
  simp only [Bool.and_eq_true, decide_eq_true_eq, List.all_eq_true]
  refine ⟨⟨by omega, by omega, by omega⟩, fun x hx => ?_⟩
  obtain ⟨i, hi, rfl⟩ := List.getElem_of_mem hx
  exact h i hi (by omega)
theorem small_no {mt : ByteArray} {ks : List ByteArray} {tn : ByteArray} {k : Nat} (hk : k < ks.length) (h : 300 < ks[k].size) : smallB mt ks tn = false := by
  unfold smallB
  rw [Bool.and_eq_false_iff]
  right
  rw [List.all_eq_false]
  exact ⟨ks[k], List.getElem_mem hk, by simpa using h⟩
theorem small_of {mt : ByteArray} {ks : List ByteArray} {tn : ByteArray} (h : smallB mt ks tn = true) : mt.size ≤ 200 ∧ ks.length ≤ 40 ∧ tn.size ≤ 100 ∧ ∀ k ∈ ks, k.size ≤ 300 := by
  unfold smallB at h
  simp only [Bool.and_eq_true, decide_eq_true_eq, List.all_eq_true] at h
  exact ⟨h.1.1, h.1.2.1, h.1.2.2, h.2⟩

set_option maxRecDepth 100000 in
set_option maxHeartbeats 4000000 in
theorem small_any (mt : ByteArray) (mk : Bool) (md ln hv fr wh er : Int) (kv : Value) (tn : ByteArray) (kp : Bool) (ks : List ByteArray) (w : World) (hmt : mt.size ≤ 9223372036854775807) (htn : tn.size ≤ 9223372036854775807) (hr : RdStrs w w.heap.size kv ks) : Calls Tryz.prog 11 #[.agg #[.string mt, .bool mk, .int .i64 md, .int .i64 ln, .int .i64 hv, .int .i64 fr, .int .i64 wh, .int .i64 er, kv, .string tn, .bool kp]] w (BoolOk (smallB mt ks tn) w) := by
  obtain ⟨A, c, rfl, hkc0, hc0⟩ := hr.form
  have hkl : ks.length ≤ 9223372036854775807 := hr.1
  have R0 := hide hr
  clear hr
  go_enter Tryz.func11, Tryz.ntmps11
  go_upto_region 1 with fail
  obtain ⟨w1, hw1⟩ : ∃ w1 : World, w1 = (w).alloc (.cells #[.string mt, .bool mk, .int .i64 md, .int .i64 ln, .int .i64 hv, .int .i64 fr, .int .i64 wh, .int .i64 er, .slice A ks.length c, .string tn, .bool kp] 29) := ⟨_, rfl⟩
  rw [← hw1]
  have hB1 : Below w.heap.size w w1 := by rw [hw1]; exact ((Below.refl _ _).alloc (Nat.le_refl _) _)
  have T : Blk w1 (w.heap.size) 29 #[.string mt, .bool mk, .int .i64 md, .int .i64 ln, .int .i64 hv, .int .i64 fr, .int .i64 wh, .int .i64 er, .slice A ks.length c, .string tn, .bool kp] := by rw [hw1]; exact (Blk.new _ _ _)
  clear hw1
  have cT := T.cell
  obtain ⟨_, hz, A', c', hv', _, _, hc⟩ := (R0.out.below hB1).mono hB1.size
  simp only [Value.slice.injEq] at hv'
  obtain ⟨rfl, _, rfl⟩ := hv'
  have HC := hide hc
  have HZ := hide hz
  clear hz hc R0
  by_cases h1 : 200 < mt.size
  · have d1 : decide ((mt.size : Int) > 200) = true := decide_eq_true (by omega)
    have hx := hide (show smallB mt ks tn = false by unfold smallB; rw [show decide (mt.size ≤ 200) = false from decide_eq_false (by omega)]; rfl)
    go_wp2
    go_ret
    exact ⟨ret_bool hx.out.symm, hB1⟩
  have d1 : decide ((mt.size : Int) > 200) = false := decide_eq_false (by omega)
  by_cases h2 : 40 < ks.length
  · have d2 : decide ((ks.length : Int) > 40) = true := decide_eq_true (by omega)
    have hx := hide (show smallB mt ks tn = false by unfold smallB; rw [show decide (ks.length ≤ 40) = false from decide_eq_false (by omega)]; simp)
    go_wp2
    go_ret
    exact ⟨ret_bool hx.out.symm, hB1⟩
  have d2 : decide ((ks.length : Int) > 40) = false := decide_eq_false (by omega)
  by_cases h3 : 100 < tn.size
  · have d3 : decide ((tn.size : Int) > 100) = true := decide_eq_true (by omega)
    have hx := hide (show smallB mt ks tn = false by unfold smallB; rw [show decide (tn.size ≤ 100) = false from decide_eq_false (by omega)]; simp)
    go_wp2
    go_ret
    exact ⟨ret_bool hx.out.symm, hB1⟩
  have d3 : decide ((tn.size : Int) > 100) = false := decide_eq_false (by omega)
  have HH1 := hide h1
  have HH2 := hide h2
  have HH3 := hide h3
  clear h1 h2 h3
  go_wp2
  go_loop [3] (fun i => ∃ k : Nat, k ≤ ks.length ∧ i = .int .i64 k ∧ Hid (SmallTo ks k)) (fun i => ks.length - (intOf i).toNat)
  case atStart => exact ⟨0, Nat.zero_le _, rfl, fun i _ h => absurd h (Nat.not_lt_zero i)⟩
  case round =>
    obtain ⟨k, hk, rfl, HA⟩ := hrel
    by_cases hlt : k < ks.length
    · obtain ⟨b, off, rfl, hbl, c1⟩ := HC.out k hlt
      have hsz := HZ.out ks[k] (List.getElem_mem hlt)
      by_cases h4 : 300 < ks[k].size
      · have hx := hide (small_no (mt := mt) (tn := tn) hlt h4)
        have d4 : decide ((ks[k].size : Int) > 300) = true := decide_eq_true (by omega)
        go_wp2
        go_ret
        exact ⟨ret_bool hx.out.symm, hB1⟩
      · have HS : Hid (SmallTo ks (k + 1)) := hide (fun i hi hik => by
          rcases Nat.lt_or_ge i k with h' | h'
          · exact HA.out i hi h'
          · obtain rfl : i = k := by omega
            omega)
        have d4 : decide ((ks[k].size : Int) > 300) = false := decide_eq_false (by omega)
        go_wp2
        go_round
        case rel => exact ⟨k + 1, by omega, by go_num, HS⟩
        case measure => simp [intOf]; omega
    · have hx := hide (small_end HH1.out HH2.out HH3.out (by omega) HA.out)
      go_wp2
      go_ret
      exact ⟨ret_bool hx.out.symm, hB1⟩

def NilArg (w : World) (e : Ending) (w' : World) : Prop := e = .returned (.tuple #[.slice none 0 0, .int .i64 1]) ∧ Below w.heap.size w w'

set_option maxRecDepth 100000 in
set_option maxHeartbeats 4000000 in
theorem fields_no (mt : ByteArray) (mk : Bool) (md ln hv fr wh er : Int) (kv : Value) (tn : ByteArray) (kp : Bool) (age : Int) (ks : List ByteArray) (w : World) (hmt : mt.size ≤ 9223372036854775807) (htn : tn.size ≤ 9223372036854775807) (hr : RdStrs w w.heap.size kv ks) (hno : metaOk mt mk md ln hv fr wh er ks tn = false ∨ tickOk age = false) : Calls Tryz.prog 12 #[.agg #[.string mt, .bool mk, .int .i64 md, .int .i64 ln, .int .i64 hv, .int .i64 fr, .int .i64 wh, .int .i64 er, kv, .string tn, .bool kp], .int .i64 age] w (NilArg w) := by
  obtain ⟨A, c, rfl, hkc0, hc0⟩ := hr.form
  have HR0 := hide hr
  clear hr
  go_enter Tryz.func12, Tryz.ntmps12
  go_wp2_with fail
  obtain ⟨w1, hw1⟩ : ∃ w1 : World, w1 = (w).alloc (.cells #[.string mt, .bool mk, .int .i64 md, .int .i64 ln, .int .i64 hv, .int .i64 fr, .int .i64 wh, .int .i64 er, .slice A ks.length c, .string tn, .bool kp] 29) := ⟨_, rfl⟩
  rw [← hw1]
  have hB1 : Below w.heap.size w w1 := by rw [hw1]; exact ((Below.refl _ _).alloc (Nat.le_refl _) _)
  have T : Blk w1 (w.heap.size) 29 #[.string mt, .bool mk, .int .i64 md, .int .i64 ln, .int .i64 hv, .int .i64 fr, .int .i64 wh, .int .i64 er, .slice A ks.length c, .string tn, .bool kp] := by rw [hw1]; exact (Blk.new _ _ _)
  have HR1 := hide ((HR0.out.below hB1).mono hB1.size)
  clear hw1
  have cT := T.cell
  refine (meta_right mt mk md ln hv fr wh er _ tn kp ks _ hmt htn HR1.out).mono ?_
  rintro e w2 ⟨rfl, hb2⟩
  have hB2 := hB1.trans (hb2.mono hB1.size)
  replace T := T.below hb2 T.lt
  replace HR1 := hide ((HR1.out.below hb2).mono hb2.size)
  clear cT hb2
  have cT := T.cell
  cases q1 : metaOk mt mk md ln hv fr wh er ks tn
  · have HQ := hide q1
    clear q1
    go_wp2_with fail
    go_ret2
    exact ⟨rfl, hB2⟩
  · have HQ := hide q1
    clear q1
    rcases hno with hno | hno
    · rw [HQ.out] at hno; cases hno
    go_wp2_with fail
    refine (ticks_any age _).mono ?_
    rintro e w9 ⟨rfl, rfl⟩
    rw [hno]
    go_wp2_with fail
    go_ret2
    exact ⟨rfl, hB2⟩

theorem neq_field (a b c d : List UInt8) (w : World) : (binOp .neq 38 (.agg #[.string ⟨a.toArray⟩, .string ⟨b.toArray⟩]) (.agg #[.string ⟨c.toArray⟩, .string ⟨d.toArray⟩])).run Tryz.prog w = .ok (.bool (!decide ((a, b) = (c, d)))) w := by
  by_cases h : a = c
  · subst h
    by_cases g : b = d
    · subst g
      simp [go_sem, Tryz.underlying38, Tryz.underlying9]
    · simp [go_sem, Tryz.underlying38, Tryz.underlying9, g]
  · simp [go_sem, Tryz.underlying38, Tryz.underlying9, h]
theorem neq_str (a c : List UInt8) (w : World) : (binOp .neq 9 (.string ⟨a.toArray⟩) (.string ⟨c.toArray⟩)).run Tryz.prog w = .ok (.bool (!decide (a = c))) w := by
  by_cases h : a = c
  · subst h
    simp [go_sem, Tryz.underlying9]
  · simp [go_sem, Tryz.underlying9, h]

theorem same_len {α : Type} [DecidableEq α] {l m : List α} (h : l.length ≠ m.length) : decide (l = m) = false := decide_eq_false fun e => h (by rw [e])
theorem same_at {α : Type} [DecidableEq α] {l m : List α} {k : Nat} (h : k < l.length) (h' : k < m.length) (hne : l[k] ≠ m[k]) : decide (l = m) = false := decide_eq_false fun e => hne (by subst e; rfl)
def EqUpto {α : Type} (l m : List α) (k : Nat) : Prop := ∀ i (h : i < l.length) (h' : i < m.length), i < k → l[i] = m[i]
theorem equpto_zero {α : Type} (l m : List α) : EqUpto l m 0 := fun i _ _ h => absurd h (Nat.not_lt_zero i)
theorem equpto_step {α : Type} {l m : List α} {k : Nat} (h : EqUpto l m k) (hk : k < l.length) (hk' : k < m.length) (he : l[k] = m[k]) : EqUpto l m (k + 1) := fun i hi hi' hik => by
  rcases Nat.lt_or_ge i k with h' | h'
  · exact h i hi hi' h'
  · obtain rfl : i = k := by omega
    exact he
theorem same_all {α : Type} [DecidableEq α] {l m : List α} {k : Nat} (hl : l.length = m.length) (hk : l.length ≤ k) (h : EqUpto l m k) : decide (l = m) = true := by
  apply decide_eq_true
  apply List.ext_getElem hl
  exact fun i h1 h2 => h i h1 h2 (by omega)
theorem str_ne {a b : List UInt8} (h : a ≠ b) : ((⟨a.toArray⟩ : ByteArray).toList == (⟨b.toArray⟩ : ByteArray).toList) = false := by
  rw [ByteArray.toList_eq, ByteArray.toList_eq]; simpa using h
theorem str_eq {a b : List UInt8} (h : a = b) : ((⟨a.toArray⟩ : ByteArray).toList == (⟨b.toArray⟩ : ByteArray).toList) = true := by
  subst h; simp

set_option maxRecDepth 100000 in
set_option maxHeartbeats 4000000 in
theorem fsame_any (v u : Value) (lx ly : List FieldL) (w : World) (B C : Nat) (hB : B ≤ w.heap.size) (hC : C ≤ w.heap.size) (hx : RdL LF w B v lx) (hy : RdL LF w C u ly) : Calls Tryz.prog 15 #[v, u] w (BoolOk (decide (lx = ly)) w) := by
  have hlx := hx.len
  have hly := hy.len
  obtain ⟨A, c, rfl, _, _⟩ := hx.form
  obtain ⟨A2, c2, rfl, _, _⟩ := hy.form
  have Hx := hide hx.at_
  have Hy := hide hy.at_
  clear hx hy
  by_cases hl : lx.length = ly.length
  · have d1 : ((lx.length : Int) == (ly.length : Int)) = true := by rw [hl]; simp
    have d2 : ((lx.length : Int) != (ly.length : Int)) = false := by rw [hl]; simp
    have HL := hide hl
    have hl1 : lx.length ≤ ly.length := by omega
    clear hl
    go_enter Tryz.func15, Tryz.ntmps15
    go_wp2
    go_loopw [5, 13] (fun j i wr => ∃ k : Nat, k ≤ lx.length ∧ i = .int .i64 k ∧ Hid (EqUpto lx ly k) ∧ Below w.heap.size w wr) (fun _ i _ => lx.length - (intOf i).toNat)
    case atStart => exact ⟨0, Nat.zero_le _, rfl, equpto_zero _ _, Below.refl _ _⟩
    case round =>
      obtain ⟨k, hk, rfl, HE, hb⟩ := hrel
      by_cases hltx : k < lx.length
      · have hlty : k < ly.length := by omega
        obtain ⟨bx, offx, rfl, hbx, ccx⟩ := Hx.out k hltx
        obtain ⟨by_, offy, rfl, hby, ccy⟩ := Hy.out k hlty
        have fx0 : ∀ n, (wr.drewN n).cell? ⟨bx, offx + k * 2, none⟩ = some (.string ⟨lx[k].1.toArray⟩) := fun n => by
          rw [show (wr.drewN n).cell? ⟨bx, offx + k * 2, none⟩ = wr.cell? ⟨bx, offx + k * 2, none⟩ from rfl, hb.cell (by show bx < _; omega)]
          have := ccx 0 _ rfl
          simpa [LF] using this
        have fx1 : ∀ n, (wr.drewN n).cell? ⟨bx, offx + k * 2 + 1, none⟩ = some (.string ⟨lx[k].2.toArray⟩) := fun n => by
          rw [show (wr.drewN n).cell? ⟨bx, offx + k * 2 + 1, none⟩ = wr.cell? ⟨bx, offx + k * 2 + 1, none⟩ from rfl, hb.cell (by show bx < _; omega)]
          have := ccx 1 _ rfl
          simpa [LF] using this
        have fy0 : ∀ n, (wr.drewN n).cell? ⟨by_, offy + k * 2, none⟩ = some (.string ⟨ly[k].1.toArray⟩) := fun n => by
          rw [show (wr.drewN n).cell? ⟨by_, offy + k * 2, none⟩ = wr.cell? ⟨by_, offy + k * 2, none⟩ from rfl, hb.cell (by show by_ < _; omega)]
          have := ccy 0 _ rfl
          simpa [LF] using this
        have fy1 : ∀ n, (wr.drewN n).cell? ⟨by_, offy + k * 2 + 1, none⟩ = some (.string ⟨ly[k].2.toArray⟩) := fun n => by
          rw [show (wr.drewN n).cell? ⟨by_, offy + k * 2 + 1, none⟩ = wr.cell? ⟨by_, offy + k * 2 + 1, none⟩ from rfl, hb.cell (by show by_ < _; omega)]
          have := ccy 1 _ rfl
          simpa [LF] using this
        clear ccx ccy
        have k1 : (0 : Int) ≤ (k : Int) := by omega
        have k2 : (k : Int) < (lx.length : Int) := by omega
        have k3 : (k : Int) < (ly.length : Int) := by omega
        by_cases he : lx[k] = ly[k]
        · have hq : ∀ W, (binOp .neq 38 (.agg #[.string ⟨lx[k].1.toArray⟩, .string ⟨lx[k].2.toArray⟩]) (.agg #[.string ⟨ly[k].1.toArray⟩, .string ⟨ly[k].2.toArray⟩])).run Tryz.prog W = .ok (.bool false) W := fun W => by
            have := neq_field lx[k].1 lx[k].2 ly[k].1 ly[k].2 W
            rwa [show decide ((lx[k].1, lx[k].2) = (ly[k].1, ly[k].2)) = true from decide_eq_true he] at this
          have HS := hide (equpto_step HE.out hltx hlty he)
          clear he
          go_wp2_with fail
          go_quiet (fail)
          go_wp2
          go_roundw
          case rel => exact ⟨k + 1, by omega, by go_num, HS, below_drewN hb _⟩
          case measure => simp [intOf]; omega
        · have hq : ∀ W, (binOp .neq 38 (.agg #[.string ⟨lx[k].1.toArray⟩, .string ⟨lx[k].2.toArray⟩]) (.agg #[.string ⟨ly[k].1.toArray⟩, .string ⟨ly[k].2.toArray⟩])).run Tryz.prog W = .ok (.bool true) W := fun W => by
            have := neq_field lx[k].1 lx[k].2 ly[k].1 ly[k].2 W
            rwa [show decide ((lx[k].1, lx[k].2) = (ly[k].1, ly[k].2)) = false from decide_eq_false he] at this
          have HS := hide (same_at hltx hlty he)
          clear he
          go_wp2_with fail
          go_quiet (fail)
          go_wp2
          go_ret
          exact ⟨ret_bool HS.out.symm, below_drewN hb _⟩
      · have HS := hide (same_all HL.out (by omega) HE.out)
        go_wp2
        go_ret
        exact ⟨ret_bool HS.out.symm, hb⟩
  · have d1 : ((lx.length : Int) == (ly.length : Int)) = false := by rw [beq_eq_false_iff_ne]; omega
    have d2 : ((lx.length : Int) != (ly.length : Int)) = true := by rw [bne_iff_ne]; omega
    have HS := hide (same_len hl)
    clear hl
    go_enter Tryz.func15, Tryz.ntmps15
    go_wp2
    go_ret
    exact ⟨ret_bool HS.out.symm, Below.refl _ _⟩

end Go.Proofs.YtmelcndflllgmaaGreatDoor
namespace Go.Proofs.YtmelcndflllgmaaGreatDoor
open Go.RowKit
set_option linter.unusedVariables false
set_option linter.unusedSimpArgs false

def wakeL : List FieldL := [([69, 84, 97, 103], [34, 118, 34]), ([67, 97, 99, 104, 101, 45, 67, 111, 110, 116, 114, 111, 108], [115, 45, 109, 97, 120, 97, 103, 101, 61, 54, 48]), ([65, 103, 101], [51]), ([88, 45, 76, 101, 110, 103, 116, 104], [42]), ([88, 45, 72, 97, 118, 101], [57])]
theorem wake_fields (dt : List UInt8) : fieldsF ⟨#[118]⟩ false (-1) (-1) 9 60 0 0 [] ⟨#[]⟩ true 3 dt = wakeL := by kernel_rfl
theorem wake_ok : metaOk ⟨#[118]⟩ false (-1) (-1) 9 60 0 0 [] ⟨#[]⟩ = true := by kernel_rfl

set_option maxRecDepth 100000 in
set_option maxHeartbeats 4000000 in
theorem wakes_any (w : World) (hT : Tab w) : Calls Tryz.prog 6 #[] w (BoolOk true w) := by
  have HT := hide hT
  clear hT
  go_enter Tryz.func6, Tryz.ntmps6
  go_wp2_with fail
  obtain ⟨w1, hw1⟩ : ∃ w1 : World, w1 = (w).alloc (.cells #[.string ⟨#[118]⟩, .bool false, .int .i64 (-1), .int .i64 (-1), .int .i64 9, .int .i64 60, .int .i64 0, .int .i64 0, .slice none 0 0, .string ⟨#[]⟩, .bool true] 29) := ⟨_, rfl⟩
  rw [← hw1]
  have hB1 : Below w.heap.size w w1 := by rw [hw1]; exact ((Below.refl _ _).alloc (Nat.le_refl _) _)
  have T : Blk w1 (w.heap.size) 29 #[.string ⟨#[118]⟩, .bool false, .int .i64 (-1), .int .i64 (-1), .int .i64 9, .int .i64 60, .int .i64 0, .int .i64 0, .slice none 0 0, .string ⟨#[]⟩, .bool true] := by rw [hw1]; exact (Blk.new _ _ _)
  clear hw1
  have cT := T.cell
  refine (fields_yes ⟨#[118]⟩ false (-1) (-1) 9 60 0 0 _ ⟨#[]⟩ true 3 [] _ (by decide) (by decide) (RdStrs.nil _ _) (HT.out.below hB1) wake_ok (by decide)).mono ?_
  rintro e w2 ⟨v, dt, rfl, _, O, hb2⟩
  rw [wake_fields] at O
  have hB2 := hB1.trans (hb2.mono hB1.size)
  replace T := T.below hb2 T.lt
  clear cT hb2
  have cT := T.cell
  obtain ⟨A, c, hv, _, _⟩ := O.rd.form
  subst hv
  have SMK := hide (show ∀ W : World, Below w2.heap.size w2 W → (fun W => Below w2.heap.size w2 W ∧ W.cell? ⟨w.heap.size, 0, none⟩ = some (.string ⟨#[118]⟩) ∧ W.cell? ⟨w.heap.size, 1, none⟩ = some (.bool false) ∧ W.cell? ⟨w.heap.size, 2, none⟩ = some (.int .i64 (-1)) ∧ W.cell? ⟨w.heap.size, 3, none⟩ = some (.int .i64 (-1)) ∧ W.cell? ⟨w.heap.size, 4, none⟩ = some (.int .i64 9) ∧ W.cell? ⟨w.heap.size, 5, none⟩ = some (.int .i64 60) ∧ W.cell? ⟨w.heap.size, 6, none⟩ = some (.int .i64 0) ∧ W.cell? ⟨w.heap.size, 7, none⟩ = some (.int .i64 0) ∧ W.cell? ⟨w.heap.size, 8, none⟩ = some (.slice none 0 0) ∧ W.cell? ⟨w.heap.size, 9, none⟩ = some (.string ⟨#[]⟩) ∧ W.cell? ⟨w.heap.size, 10, none⟩ = some (.bool true)) W from fun W h => ⟨h, (T.below h T.lt).cell 0, (T.below h T.lt).cell 1, (T.below h T.lt).cell 2, (T.below h T.lt).cell 3, (T.below h T.lt).cell 4, (T.below h T.lt).cell 5, (T.below h T.lt).cell 6, (T.below h T.lt).cell 7, (T.below h T.lt).cell 8, (T.below h T.lt).cell 9, (T.below h T.lt).cell 10⟩)
  have CS := hide (fun (u : Value) (W : World) (h : Below w2.heap.size w2 W) (hu : RdL LF W W.heap.size u wakeL) => (fsame_any (.slice A wakeL.length c) u wakeL wakeL W W.heap.size W.heap.size (Nat.le_refl _) (Nat.le_refl _) ((O.rd.below h).mono h.size) hu : Calls Tryz.prog 15 _ _ _))
  rw [show decide (wakeL = wakeL) = true from decide_eq_true rfl] at CS
  clear SMK
  go_wp2_with fail
  obtain ⟨w3, hw3⟩ : ∃ W, W = w2.alloc (.cells #[.string ⟨#[69, 84, 97, 103]⟩, .string ⟨#[34, 118, 34]⟩, .string ⟨#[67, 97, 99, 104, 101, 45, 67, 111, 110, 116, 114, 111, 108]⟩, .string ⟨#[115, 45, 109, 97, 120, 97, 103, 101, 61, 54, 48]⟩, .string ⟨#[65, 103, 101]⟩, .string ⟨#[51]⟩, .string ⟨#[88, 45, 76, 101, 110, 103, 116, 104]⟩, .string ⟨#[42]⟩, .string ⟨#[88, 45, 72, 97, 118, 101]⟩, .string ⟨#[57]⟩] 38) := ⟨_, rfl⟩
  rw [← hw3]
  have hb3 : Below w2.heap.size w2 w3 := by rw [hw3]; exact (Below.refl _ _).alloc (Nat.le_refl _) _
  have RL : RdL LF w3 w3.heap.size (.slice (some ⟨w2.heap.size, 0, none⟩) 5 5) wakeL := by rw [hw3]; exact RdL.blk (Blk.new _ _ _) (by rfl) rfl (by decide)
  have hB3 := hB2.trans (hb3.mono hB2.size)
  replace T := T.below hb3 T.lt
  have RC := CS.out _ _ hb3 RL
  clear cT hw3
  have cT := T.cell
  refine RC.mono ?_
  rintro e w4 ⟨rfl, hb4⟩
  have hB4 := hB3.trans (hb4.mono hB3.size)
  replace T := T.below hb4 T.lt
  clear cT RL RC
  have cT := T.cell
  go_wp2_with fail
  refine (joins_any ⟨#[118]⟩ false (-1) (-1) 9 60 0 0 _ ⟨#[]⟩ true _ (by decide)).mono ?_
  rintro e w5 ⟨rfl, hb5⟩
  go_wp2_with fail
  go_ret
  exact ⟨ret_bool (by kernel_rfl), hB4.trans (hb5.mono hB4.size)⟩

end Go.Proofs.YtmelcndflllgmaaGreatDoor
