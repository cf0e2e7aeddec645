/-
  Parts of a list of fields, appended; names that are no condition's.
-/
import Derived.Test.YtkmheoolekookaaDoorCndE
import Derived.Test.YtkmheoolekookaaDoorOwnS
import Derived.Test.YtkmheoolekookaaDoorBut
import Derived.Deep.DeepCutAuto
namespace Go.Proofs.YtkmheoolekookaaDoor
open Go.RowKit
set_option linter.unusedVariables false
set_option linter.unusedSimpArgs false

/-- append onto an own slice, as long as memory bears it. -/
theorem run_appK {α : Type} {L : Lay α} {w : World} (ty : TypeId) (B : Nat) (v : Value) (l : List α) (hown : OwnL L B w v l) (hB : B ≤ w.heap.size) (u : Value) (ns : List α) (C : Nat) (hu : RdL L w C u ns) (hm : l.length + ns.length ≤ maxLen) (h63 : (l.length + ns.length) * L.bytes ≤ 140737488355328) :
    ∃ v' w', (Builtin.append_ #[L.t, L.t] ty #[v, u]).run Tryd.prog w = .ok v' w' ∧ OwnL L B w' v' (l ++ ns) ∧ w.grownBy w' v.ownBlock := by
  obtain ⟨i0, hi, hz0, hz1, hz2⟩ := info_parts L.info
  obtain ⟨A, c, rfl, _, _⟩ := hu.form
  have hc := hu.at_
  rcases A with _ | ad
  · have hn : ns = [] := by
      rcases ns with _ | ⟨b, ns⟩
      · rfl
      · obtain ⟨_, _, e, _⟩ := hc 0 (by simp)
        cases e
    subst hn
    refine ⟨v, w, ?_, by simpa using hown, World.grownBy.refl w _⟩
    rcases hown.2 with ⟨rfl, _⟩ | ⟨g, cap, cur, rfl, _, _, hnc, _⟩
    · simp [Builtin.append_, run_underlying L.ht, sizeOf, typeInfo, hi, Builtin.lenOf, Builtin.firstCells]
    · simp [Builtin.append_, run_underlying L.ht, sizeOf, typeInfo, hi, Builtin.lenOf, Builtin.firstCells, hnc, storeCells]
  · obtain ⟨v', w', hr, h1, h2, _, _⟩ := run_append_own_at (P := Tryd.prog) w B L.t ty L.e i0 L.z L.n L.bytes L.ht hi hz0 hz1 hz2 L.zs L.pos v l.length (l.flatMap L.enc) hown ad ns.length c (ns.flatMap L.enc) (flat_len L ns)
      (fun k z hk => by
        obtain ⟨i, j, hi', hj, rfl, hz⟩ := flat_of L hk
        obtain ⟨b, off, e, _, hcell⟩ := hc i hi'
        simp only [Option.some.injEq] at e
        subst e
        rw [← hcell j z hz, Addr.add_lit, Nat.add_assoc])
      (fun z hz => by
        obtain ⟨x, _, hx⟩ := List.mem_flatMap.1 hz
        exact L.one x z hx) hm h63 hB
    exact ⟨v', w', hr, by unfold OwnL; rw [List.length_append, List.flatMap_append]; exact h1, h2⟩
theorem wpList_appK {α : Type} (L : Lay α) {ops : Array Oper} {rest : List Oper} {o : Oper} {a : Act} {Q : Exit → Act → World → Prop} {w : World} (w0 : World) (hw : Region.wanted o (yielded ops a.tmps) = true) (s x : Operand) (t1 t2 : TypeId)
    (ho : o.op = .call { callee := .builtin .append, args := #[s, x], argTypes := #[t1, t2] }) (ht1 : t1 = L.t) (ht2 : t2 = L.t)
    (B : Nat) (v : Value) (l : List α) (hs : a.eval s = v) (hown : OwnL L B w v l) (hb0 : Below B w0 w) (hB : B ≤ w.heap.size)
    (u : Value) (ns : List α) (C : Nat) (hx : a.eval x = u) (hu : RdL L w C u ns) (hm : l.length + ns.length ≤ maxLen) (h63 : (l.length + ns.length) * L.bytes ≤ 140737488355328)
    (h : ∀ v' w', OwnL L B w' v' (l ++ ns) → Below B w0 w' → wpList Tryd.prog ops Q rest (a.put o.dst v') w') : wpList Tryd.prog ops Q (o :: rest) a w := by
  subst ht1 ht2
  obtain ⟨v', w', hrun, h1, h2⟩ := run_appK o.type B v l hown hB u ns C hu hm h63
  refine BigFrame.wpList_want hw fun K hK => ?_
  unfold Oper.wp execOp
  simp only [ho, resolve, invoke, builtin, Sem.run_bind, Sem.run_pure, Result.andThen_ok, List.map_toArray, List.map_cons, List.map_nil, hs, hx, hrun]
  have hr : ∀ k, v.ownBlock = some k → B ≤ k := fun k hk => (hown.lt k hk).1
  exact hK _ _ (h v' w' h1 (hb0.grown h2 hB hr))
/-- The first elements of a list that is read. -/
theorem RdL.take {α : Type} {L : Lay α} {w : World} {B n c k : Nat} {A : Option Addr} {l : List α} (h : RdL L w B (.slice A n c) l) (hk : k ≤ l.length) : RdL L w B (.slice A k c) (l.take k) := by
  have hat := h.at_
  obtain ⟨h0, A', c', hv, h2, h3, _⟩ := h
  simp only [Value.slice.injEq] at hv
  obtain ⟨rfl, _, rfl⟩ := hv
  refine ⟨by rw [List.length_take]; omega, A, c, by rw [List.length_take, Nat.min_eq_left hk], by rw [List.length_take]; omega, h3, fun i hi => ?_⟩
  rw [List.length_take] at hi
  obtain ⟨b, off, e, hb, hc⟩ := hat i (by omega)
  exact ⟨b, off, e, hb, fun j u hu => hc j u (by rw [List.getElem_take] at hu; exact hu)⟩
/-- What stands behind the first elements. -/
theorem RdL.drop {α : Type} {L : Lay α} {w : World} {B n c k : Nat} {A : Option Addr} {l : List α} (h : RdL L w B (.slice A n c) l) (hk : k ≤ l.length) : RdL L w B (.slice (if c = k then A else A.map (·.add (k * L.n))) (l.length - k) (c - k)) (l.drop k) := by
  have hat := h.at_
  obtain ⟨h0, A', c', hv, h2, h3, _⟩ := h
  simp only [Value.slice.injEq] at hv
  obtain ⟨rfl, _, rfl⟩ := hv
  refine ⟨by rw [List.length_drop]; omega, _, _, by rw [List.length_drop], by rw [List.length_drop]; omega, by omega, fun i hi => ?_⟩
  rw [List.length_drop] at hi
  obtain ⟨b, off, e, hb, hc⟩ := hat (k + i) (by omega)
  subst e
  rw [if_neg (by omega)]
  have e2 : (⟨b, off, none⟩ : Addr).add (k * L.n) = ⟨b, off + k * L.n, none⟩ := by by_cases hz : k * L.n = 0 <;> simp [Addr.add, hz]
  refine ⟨b, off + k * L.n, by simp [e2], hb, fun j u hu => ?_⟩
  have := hc j u (by rw [List.getElem_drop] at hu; exact hu)
  rw [Nat.add_mul, ← Nat.add_assoc] at this
  exact this
/-- 'l[k:]' and 'l[:k]' of fields, run. -/
theorem LF.cutrun {A : Option Addr} {n c k : Nat} {l : List FieldL} {w : World} {B : Nat} (h : RdL LF w B (.slice A n c) l) (hk : k ≤ l.length) :
    ∃ (C : Option Addr) (c' : Nat), (∀ W, (Instr.slice 22 (.slice A n c) (some (.int .i64 (k : Int))) none none).run Tryd.prog W = .ok (.slice C (l.length - k) c') W) ∧
      (∀ W, (Instr.sliceAt 22 (.slice A n c) (some (.int .i64 (k : Int))) none none).run Tryd.prog W = .ok (.slice C (l.length - k) c') W) ∧ RdL LF w B (.slice C (l.length - k) c') (l.drop k) := by
  have h1 := h.drop hk
  obtain ⟨A', c', hv, h2, h3⟩ := h.form
  simp only [Value.slice.injEq] at hv
  obtain ⟨rfl, rfl, rfl⟩ := hv
  have ht : Tryd.prog.underlying 22 = some (.slice (Tryd.prog.elem 22)) := by kernel_rfl
  have hs : ∀ W, (sizeOf (Tryd.prog.elem 22)).run Tryd.prog W = .ok 2 W := fun W => by kernel_rfl
  have e : ∀ W, (Instr.slice 22 (.slice A l.length c) (some (.int .i64 (k : Int))) none none).run Tryd.prog W = .ok (.slice (if c = k then A else A.map (·.add (k * 2))) (l.length - k) (c - k)) W := fun W => by
    rw [run_slice_l W 22 A l.length c ht .i64 (k : Int) (by omega) (by omega), hs]
    simp only [Result.andThen_ok]
    unfold sliced
    simp
  refine ⟨_, _, e, fun W => ?_, h1⟩
  rw [run_sliceAt_slice W 22 _ _ _ _ ht]
  exact e W
/-- A slice of one field that the walk has just made. -/
theorem OwnL.lit1 (w : World) (a b : ByteArray) (B : Nat) (hB : B ≤ w.heap.size) : OwnL LF B (w.alloc (.cells #[.string a, .string b] 36)) (.slice (some ⟨w.heap.size, 0, none⟩) 1 1) [(a.data.toList, b.data.toList)] :=
  ⟨by simp [LF], .inr ⟨w.heap.size, 1, #[.string a, .string b], rfl, hB, heap_alloc_new w _, Nat.le_refl _, by decide, rfl, by simp [LF]⟩⟩
theorem step_appK {α : Type} (L : Lay α) {ops : Array Oper} {o : Oper} {a : Act} {K : Act → World → Prop} {Q : Exit → Act → World → Prop} {E : Prop} {w : World} (w0 : World) (hw : Region.wanted o (yielded ops a.tmps) = true) (s x : Operand) (t1 t2 : TypeId)
    (ho : o.op = .call { callee := .builtin .append, args := #[s, x], argTypes := #[t1, t2] }) (ht1 : t1 = L.t) (ht2 : t2 = L.t)
    (B : Nat) (v : Value) (l : List α) (hs : a.eval s = v) (hown : OwnL L B w v l) (hb0 : Below B w0 w) (hB : B ≤ w.heap.size)
    (u : Value) (ns : List α) (C : Nat) (hx : a.eval x = u) (hu : RdL L w C u ns) (hm : l.length + ns.length ≤ maxLen) (h63 : (l.length + ns.length) * L.bytes ≤ 140737488355328)
    (h : ∀ v' w', OwnL L B w' v' (l ++ ns) → Below B w0 w' → K (a.put o.dst v') w') :
    if Region.wanted o (yielded ops a.tmps) = true then Oper.wp Tryd.prog o a w K Q else E := by
  rw [if_pos hw]
  subst ht1 ht2
  obtain ⟨v', w', hrun, h1, h2⟩ := run_appK o.type B v l hown hB u ns C hu hm h63
  unfold Oper.wp execOp
  simp only [ho, resolve, invoke, builtin, Sem.run_bind, Sem.run_pure, Result.andThen_ok, List.map_toArray, List.map_cons, List.map_nil, hs, hx, hrun]
  have hr : ∀ k, v.ownBlock = some k → B ≤ k := fun k hk => (hown.lt k hk).1
  exact h v' w' h1 (hb0.grown h2 hB hr)
/-- No condition's name has this length. -/
def otherN (n : Nat) : Prop := n ≠ 8 ∧ n ≠ 19 ∧ n ≠ 13 ∧ n ≠ 17
def NamedOk (n : Nat) (w : World) (e : Ending) (w' : World) : Prop := ∃ b : Bool, e = .returned (.bool b) ∧ (b = false → otherN n) ∧ Below w.heap.size w w'
theorem other_name {a n : Bs} (h : otherN a.length) (hn : n = namM ∨ n = namN ∨ n = namU ∨ n = namS ∨ n = namR) : alikeB a n = false := by
  apply alike_len
  obtain ⟨h1, h2, h3, h4⟩ := h
  rcases hn with rfl | rfl | rfl | rfl | rfl
  · exact h1
  · exact h3
  · exact h2
  · exact h4
  · exact h1
theorem ofV_other {l : List FieldL} {f : FieldL} {n : Bs} {k : Nat} (h : alikeB f.1 n = false) : ofV ((l.take k ++ [f]) ++ l.drop k) n = ofV l n := by
  rw [ofV_app, ofV_app, ofV_one, h]
  simp only [Bool.false_eq_true, if_false, List.append_nil]
  rw [← ofV_app, List.take_append_drop]
theorem CondIs.other {l : List FieldL} {f : FieldL} {k : Nat} {c : CondM} {e : Nat} (h : otherN f.1.length) (hc : CondIs ((l.take k ++ [f]) ++ l.drop k) c e) : CondIs l c e := by
  unfold CondIs at hc
  rw [ofV_other (other_name h (.inl rfl)), ofV_other (other_name h (.inr (.inl rfl))), ofV_other (other_name h (.inr (.inr (.inl rfl)))), ofV_other (other_name h (.inr (.inr (.inr (.inl rfl))))), ofV_other (other_name h (.inr (.inr (.inr (.inr rfl)))))] at hc
  exact hc
theorem sumF_other {l : List FieldL} {f : FieldL} {k : Nat} : sumF ((l.take k ++ [f]) ++ l.drop k) = sumF ([f] ++ l) := by
  rw [sumF_app, sumF_app, sumF_app]
  have : sumF (l.take k) + sumF (l.drop k) = sumF l := by rw [← sumF_app, List.take_append_drop]
  omega

set_option maxRecDepth 100000 in
set_option maxHeartbeats 4000000 in
theorem named_any (s : ByteArray) (w : World) : Calls Tryd.prog 11 #[.string s] w (NamedOk s.size w) := by
  go_enter Tryd.func11, Tryd.ntmps11
  go_upto_region 2 with fail
  obtain ⟨w1, hw1⟩ : ∃ w1 : World, w1 = (w).alloc (.cells #[.string ⟨#[73, 102, 45, 77, 97, 116, 99, 104]⟩, .string ⟨#[73, 102, 45, 85, 110, 109, 111, 100, 105, 102, 105, 101, 100, 45, 83, 105, 110, 99, 101]⟩, .string ⟨#[73, 102, 45, 78, 111, 110, 101, 45, 77, 97, 116, 99, 104]⟩, .string ⟨#[73, 102, 45, 77, 111, 100, 105, 102, 105, 101, 100, 45, 83, 105, 110, 99, 101]⟩, .string ⟨#[73, 102, 45, 82, 97, 110, 103, 101]⟩] 9) := ⟨_, rfl⟩
  rw [← hw1]
  have hB1 : Below w.heap.size w w1 := by rw [hw1]; exact ((Below.refl _ _).alloc (Nat.le_refl _) _)
  have P : Blk w1 (w.heap.size) 9 #[.string ⟨#[73, 102, 45, 77, 97, 116, 99, 104]⟩, .string ⟨#[73, 102, 45, 85, 110, 109, 111, 100, 105, 102, 105, 101, 100, 45, 83, 105, 110, 99, 101]⟩, .string ⟨#[73, 102, 45, 78, 111, 110, 101, 45, 77, 97, 116, 99, 104]⟩, .string ⟨#[73, 102, 45, 77, 111, 100, 105, 102, 105, 101, 100, 45, 83, 105, 110, 99, 101]⟩, .string ⟨#[73, 102, 45, 82, 97, 110, 103, 101]⟩] := by rw [hw1]; exact (Blk.new _ _ _)
  clear hw1
  have cP := P.cell
  go_loopw [4, 7] (fun _ c7 wr => ∃ k : Nat, k ≤ 5 ∧ c7 = .int .i64 (k : Int) ∧ Hid (([8, 19, 13, 17, 8].take k).all (fun n => s.size != n) = true) ∧ w1 = wr) (fun _ c7 _ => 5 - (intOf c7).toNat)
  case atStart => exact ⟨0, by omega, rfl, rfl, rfl⟩
  case round =>
    obtain ⟨k, hk, rfl, HJ, rfl⟩ := hrel
    have hk6 : k = 0 ∨ k = 1 ∨ k = 2 ∨ k = 3 ∨ k = 4 ∨ k = 5 := by omega
    rcases hk6 with rfl | rfl | rfl | rfl | rfl | rfl
    · by_cases e : s.size = 8
      · have d : ((s.size : Int) == 8) = true := by rw [beq_iff_eq]; omega
        have d' : s.size = 8 := e
        go_wp2_with fail
        go_ret
        exact ⟨true, rfl, by simp, hB1⟩
      · have d : ((s.size : Int) == 8) = false := by rw [beq_eq_false_iff_ne]; omega
        have HN := hide (show ([8, 19, 13, 17, 8].take 1).all (fun n => s.size != n) = true by have := HJ.out; simp at this ⊢; omega)
        go_wp2_with fail
        go_roundw
        case rel => exact ⟨1, by omega, rfl, HN, by first | rfl | trivial⟩
        case measure => simp [intOf]
    · by_cases e : s.size = 19
      · have d : ((s.size : Int) == 19) = true := by rw [beq_iff_eq]; omega
        have d' : s.size = 19 := e
        go_wp2_with fail
        go_ret
        exact ⟨true, rfl, by simp, hB1⟩
      · have d : ((s.size : Int) == 19) = false := by rw [beq_eq_false_iff_ne]; omega
        have HN := hide (show ([8, 19, 13, 17, 8].take 2).all (fun n => s.size != n) = true by have := HJ.out; simp at this ⊢; omega)
        go_wp2_with fail
        go_roundw
        case rel => exact ⟨2, by omega, rfl, HN, by first | rfl | trivial⟩
        case measure => simp [intOf]
    · by_cases e : s.size = 13
      · have d : ((s.size : Int) == 13) = true := by rw [beq_iff_eq]; omega
        have d' : s.size = 13 := e
        go_wp2_with fail
        go_ret
        exact ⟨true, rfl, by simp, hB1⟩
      · have d : ((s.size : Int) == 13) = false := by rw [beq_eq_false_iff_ne]; omega
        have HN := hide (show ([8, 19, 13, 17, 8].take 3).all (fun n => s.size != n) = true by have := HJ.out; simp at this ⊢; omega)
        go_wp2_with fail
        go_roundw
        case rel => exact ⟨3, by omega, rfl, HN, by first | rfl | trivial⟩
        case measure => simp [intOf]
    · by_cases e : s.size = 17
      · have d : ((s.size : Int) == 17) = true := by rw [beq_iff_eq]; omega
        have d' : s.size = 17 := e
        go_wp2_with fail
        go_ret
        exact ⟨true, rfl, by simp, hB1⟩
      · have d : ((s.size : Int) == 17) = false := by rw [beq_eq_false_iff_ne]; omega
        have HN := hide (show ([8, 19, 13, 17, 8].take 4).all (fun n => s.size != n) = true by have := HJ.out; simp at this ⊢; omega)
        go_wp2_with fail
        go_roundw
        case rel => exact ⟨4, by omega, rfl, HN, by first | rfl | trivial⟩
        case measure => simp [intOf]
    · by_cases e : s.size = 8
      · have d : ((s.size : Int) == 8) = true := by rw [beq_iff_eq]; omega
        have d' : s.size = 8 := e
        go_wp2_with fail
        go_ret
        exact ⟨true, rfl, by simp, hB1⟩
      · have d : ((s.size : Int) == 8) = false := by rw [beq_eq_false_iff_ne]; omega
        have HN := hide (show ([8, 19, 13, 17, 8].take 5).all (fun n => s.size != n) = true by have := HJ.out; simp at this ⊢; omega)
        go_wp2_with fail
        go_roundw
        case rel => exact ⟨5, by omega, rfl, HN, by first | rfl | trivial⟩
        case measure => simp [intOf]
    · have HN := hide (show otherN s.size by have := HJ.out; simp at this; unfold otherN; omega)
      go_wp2_with fail
      go_ret
      exact ⟨false, rfl, fun _ => HN.out, hB1⟩

end Go.Proofs.YtkmheoolekookaaDoor
