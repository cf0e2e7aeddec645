/-
  Both readers of a chunked body, standing or wrong.
-/
import Derived.Test.YtiigkacmahecaaaDoorChkQ
import Derived.Test.YtiigkacmahecaaaDoorGrCh
namespace Go.Proofs.YtiigkacmahecaaaDoor
open Go.RowKit
set_option linter.unusedVariables false
set_option linter.unusedSimpArgs false

set_option maxHeartbeats 1000000 in
theorem rtake_wrong (i1 i2 i3 i4 : Int) (u : Value) (w : World) : Calls Tryd.prog 51 #[.agg #[.int .i64 11, .int .i64 i1, .int .i64 i2, .int .i64 i3, .int .i64 i4], u] w fun e w' => e = .returned (.tuple #[.agg #[.int .i64 11, .int .i64 i1, .int .i64 i2, .int .i64 i3, .int .i64 i4], .slice none 0 0, .int .i64 0, .int .i64 2]) ∧ Below w.heap.size w w' := by
  go_enter Tryd.func51, Tryd.ntmps51
  go_wp2_with fail
  exact bodyPost_ret (v := .tuple #[.agg #[.int .i64 11, .int .i64 i1, .int .i64 i2, .int .i64 i3, .int .i64 i4], .slice none 0 0, .int .i64 0, .int .i64 2]) (by simp [results, Tryd.results51, go_sem]) rfl (⟨rfl, (((Below.refl _ _).alloc (Nat.le_refl _) _).alloc (by simp) _)⟩)

set_option maxHeartbeats 1000000 in
theorem rdone_any (i0 i1 i2 i3 i4 : Int) (w : World) : Calls Tryd.prog 38 #[.agg #[.int .i64 i0, .int .i64 i1, .int .i64 i2, .int .i64 i3, .int .i64 i4]] w fun e w' => e = .returned (.bool (i0 == 10)) ∧ Below w.heap.size w w' := by
  go_enter Tryd.func38, Tryd.ntmps38
  go_wp2_with fail
  go_ret
  exact ⟨rfl, (Below.refl _ _).alloc (Nat.le_refl _) _⟩

/-- A reader: it stands somewhere, or was told a wrong byte. -/
abbrev St := Option Rs
def tk : St → List UInt8 → Nat × St × List UInt8 × Nat
  | some x, bs => if (takeM x bs).2.2.2 = true then ((takeM x bs).1, some (takeM x bs).2.1, (takeM x bs).2.2.1, 0) else ((takeM x bs).1, none, [], 2)
  | none, _ => (0, none, [], 2)
def dn : St → Bool
  | some x => decide (x.at_ = 9)
  | none => false
def RdSt (w : World) (g : Nat) : St → Prop
  | some x => Inv x ∧ Blk w g 88 (rdC x false)
  | none => Some6 w g true
def RfSt : St → Array Value → Prop
  | some x, cs => Inv x ∧ RelC x cs
  | none, cs => ∃ i1 i2 i3 i4 : Int, cs = #[.int .i64 11, .int .i64 i1, .int .i64 i2, .int .i64 i3, .int .i64 i4]
theorem RdSt.below {w w' : World} {g B : Nat} {st : St} (h : RdSt w g st) (hb : Below B w w') (hg : g < B) : RdSt w' g st := by
  cases st with
  | none => obtain ⟨a, b, c, d, e, h⟩ := h; exact ⟨a, b, c, d, e, h.below hb hg⟩
  | some x => exact ⟨h.1, h.2.below hb hg⟩
theorem RdSt.lt {w : World} {g : Nat} {st : St} (h : RdSt w g st) : g < w.heap.size := by
  cases st with
  | none => obtain ⟨a, b, c, d, e, h⟩ := h; exact h.lt
  | some x => exact h.2.lt
theorem RdSt.far {w : World} {g k i : Nat} {st : St} (h : RdSt w g st) (hk : g ≠ k) (u : Value) : RdSt (w.setCell ⟨k, i, none⟩ u) g st := by
  cases st with
  | none => obtain ⟨a, b, c, d, e, h⟩ := h; exact ⟨a, b, c, d, e, h.far hk u⟩
  | some x => exact ⟨h.1, h.2.far hk u⟩
theorem RdSt.alloc {w : World} {g : Nat} {st : St} (h : RdSt w g st) (o : Obj) : RdSt (w.alloc o) g st := h.below ((Below.refl _ _).alloc (Nat.le_refl _) o) h.lt
theorem no_byte5 (i0 i1 i2 i3 i4 : Int) (j : Nat) (z : Int) : (#[.int .i64 i0, .int .i64 i1, .int .i64 i2, .int .i64 i3, .int .i64 i4] : Array Value)[j]? ≠ some (Value.int .u8 z) := by
  rcases j with _ | _ | _ | _ | _ | j <;> simp
theorem RfSt.cells {st : St} {cs : Array Value} (h : RfSt st cs) : ∃ i0 i1 i2 i3 i4 : Int, cs = #[.int .i64 i0, .int .i64 i1, .int .i64 i2, .int .i64 i3, .int .i64 i4] := by
  cases st with
  | none => obtain ⟨a, b, c, d, h⟩ := h; exact ⟨_, _, _, _, _, h⟩
  | some x => obtain ⟨_, l, _, _, _, h⟩ := h; exact ⟨_, _, _, _, _, h⟩
theorem take_st (st : St) (v : Value) (bs : List UInt8) (g : Nat) (w : World) (X : RdSt w g st) (hr : Byt w w.heap.size v bs) : Calls Tryd.prog 42 #[.pointer (some ⟨g, 0, none⟩), v] w fun e w' => ∃ u, e = .returned (.tuple #[u, .int .i64 ((tk st bs).1 : Int), .int .i64 ((tk st bs).2.2.2 : Int)]) ∧ Byt w' w'.heap.size u (tk st bs).2.2.1 ∧ RdSt w' g (tk st bs).2.1 ∧ But g w w' := by
  cases st with
  | none =>
    refine (take_bad g v w X).mono fun e w' h => ?_
    obtain ⟨rfl, rfl⟩ := h
    exact ⟨_, rfl, Byt.nil _ _, X, But.refl _ _⟩
  | some x =>
    have hlen := hr.len
    refine (take_any x v bs g w X.2 X.1 hr).mono fun e w' h => ?_
    unfold TakePost at h
    have hl := takeM_len bs x
    have J := inv_take bs X.1
    by_cases hk : (takeM x bs).2.2.2 = true
    · rw [if_pos hk] at h
      obtain ⟨u, rfl, ho, Y, hb⟩ := h
      have e : tk (some x) bs = ((takeM x bs).1, some (takeM x bs).2.1, (takeM x bs).2.2.1, 0) := by simp only [tk]; rw [if_pos hk]
      rw [e]
      exact ⟨u, rfl, ho.byt (by omega), ⟨J, Y⟩, hb⟩
    · rw [if_neg hk] at h
      obtain ⟨rfl, Y, hb⟩ := h
      have e : tk (some x) bs = ((takeM x bs).1, none, [], 2) := by simp only [tk]; rw [if_neg hk]
      rw [e]
      exact ⟨_, rfl, Byt.nil _ _, Y, hb⟩
theorem rtake_st (st : St) {i0 i1 i2 i3 i4 : Int} (v : Value) (bs : List UInt8) (w : World) (X : RfSt st #[.int .i64 i0, .int .i64 i1, .int .i64 i2, .int .i64 i3, .int .i64 i4]) (hr : Byt w w.heap.size v bs) : Calls Tryd.prog 51 #[.agg #[.int .i64 i0, .int .i64 i1, .int .i64 i2, .int .i64 i3, .int .i64 i4], v] w fun e w' => ∃ (j0 j1 j2 j3 j4 : Int) (u : Value), RfSt (tk st bs).2.1 #[.int .i64 j0, .int .i64 j1, .int .i64 j2, .int .i64 j3, .int .i64 j4] ∧ e = .returned (.tuple #[.agg #[.int .i64 j0, .int .i64 j1, .int .i64 j2, .int .i64 j3, .int .i64 j4], u, .int .i64 ((tk st bs).1 : Int), .int .i64 ((tk st bs).2.2.2 : Int)]) ∧ Byt w' w'.heap.size u (tk st bs).2.2.1 ∧ Below w.heap.size w w' := by
  cases st with
  | none =>
    obtain ⟨a, b, c, d, h⟩ := X
    rw [h]
    refine (rtake_wrong a b c d v w).mono fun e w' h => ?_
    obtain ⟨rfl, hb⟩ := h
    exact ⟨11, a, b, c, d, _, ⟨a, b, c, d, rfl⟩, rfl, Byt.nil _ _, hb⟩
  | some x =>
    have hlen := hr.len
    refine (rtake_any X.1 X.2 v bs w hr).mono fun e w' h => ?_
    unfold RTake at h
    have hl := takeM_len bs x
    have J := inv_take bs X.1
    by_cases hk : (takeM x bs).2.2.2 = true
    · rw [if_pos hk] at h
      obtain ⟨u, cs, hc, rfl, ho, hb⟩ := h
      have e : tk (some x) bs = ((takeM x bs).1, some (takeM x bs).2.1, (takeM x bs).2.2.1, 0) := by simp only [tk]; rw [if_pos hk]
      rw [e]
      obtain ⟨l, q0, q1, q2, rfl⟩ := hc
      exact ⟨_, _, _, _, _, u, ⟨J, ⟨l, q0, q1, q2, rfl⟩⟩, rfl, ho.byt (by omega), hb⟩
    · rw [if_neg hk] at h
      obtain ⟨a, b, c, d, rfl, hb⟩ := h
      have e : tk (some x) bs = ((takeM x bs).1, none, [], 2) := by simp only [tk]; rw [if_neg hk]
      rw [e]
      exact ⟨11, a, b, c, d, _, ⟨a, b, c, d, rfl⟩, rfl, Byt.nil _ _, hb⟩
theorem done_st (st : St) (g : Nat) (w : World) (X : RdSt w g st) : Calls Tryd.prog 37 #[.pointer (some ⟨g, 0, none⟩)] w fun e w' => e = .returned (.bool (dn st)) ∧ w = w' := by
  cases st with
  | none => exact done_bad g w X
  | some x => exact done_chunk x g w X.2
theorem rdone_st (st : St) {i0 i1 i2 i3 i4 : Int} (w : World) (X : RfSt st #[.int .i64 i0, .int .i64 i1, .int .i64 i2, .int .i64 i3, .int .i64 i4]) : Calls Tryd.prog 38 #[.agg #[.int .i64 i0, .int .i64 i1, .int .i64 i2, .int .i64 i3, .int .i64 i4]] w fun e w' => e = .returned (.bool (dn st)) ∧ Below w.heap.size w w' := by
  have h := rdone_any i0 i1 i2 i3 i4 w
  have e : (i0 == 10) = dn st := by
    cases st with
    | none =>
      obtain ⟨a, b, c, d, h⟩ := X
      simp only [Array.mk.injEq, List.cons.injEq, Value.int.injEq, true_and, and_true] at h
      obtain ⟨rfl, _⟩ := h
      rfl
    | some x =>
      obtain ⟨I, l, _, _, _, h⟩ := X
      have ht := stN_ten I
      simp only [Array.mk.injEq, List.cons.injEq, Value.int.injEq, true_and, and_true] at h
      obtain ⟨rfl, _⟩ := h
      by_cases h9 : x.at_ = 9
      · have := ht.2.2 h9
        rw [this]; simp [dn, h9]
      · have h10 : stN x ≠ 10 := fun h => h9 (ht.2.1 h)
        have e1 : ((stN x : Int) == 10) = false := beqF (by omega)
        rw [e1]; simp [dn, h9]
  rw [e] at h
  exact h

end Go.Proofs.YtiigkacmahecaaaDoor
