/-
  Two own slices of bytes, side by side.
-/
import Derived.Test.YteebpclbpclhaaaDoorBut
namespace Go.Proofs.YteebpclbpclhaaaDoor
open Go.RowKit Go.Lib
set_option linter.unusedVariables false
set_option linter.unusedSimpArgs false

/-- append onto an own slice of bytes that can be read: its run. -/
theorem run_appX {w : World} (ty : TypeId) (B : Nat) (v : Value) (bs : List UInt8) (hown : OwnB B w v bs) (hB : B ≤ w.heap.size) (u : Value) (ns : List UInt8) (C : Nat) (hu : Byt w C u ns)
    (h63 : bs.length + ns.length ≤ 140737488355328) :
    ∃ v' w', (Builtin.append_ #[24, 24] ty #[v, u]).run Tryd.prog w = .ok v' w' ∧ OwnB B w' v' (bs ++ ns) ∧ w.grownBy w' v.ownBlock ∧ (v'.ownBlock = v.ownBlock ∨ v'.ownBlock = some w.heap.size) := by
  obtain ⟨i0, hi, hz0, hz1, hz2⟩ := info_parts u8_info
  obtain ⟨A, c, rfl, _, _⟩ := hu.form
  obtain ⟨_, _, hc⟩ := hu.at_
  rcases A with _ | ad
  · have hn : ns = [] := by
      rcases ns with _ | ⟨b, ns⟩
      · rfl
      · obtain ⟨_, _, e, _⟩ := hc 0 (by simp)
        cases e
    subst hn
    refine ⟨v, w, ?_, by simpa using hown, World.grownBy.refl w _, .inl rfl⟩
    rcases hown.2 with ⟨rfl, _⟩ | ⟨g, cap, cur, rfl, _, _, hnc, _⟩
    · simp [Builtin.append_, run_underlying Tryd.underlying24, sizeOf, typeInfo, hi, Builtin.lenOf, Builtin.firstCells]
    · simp [Builtin.append_, run_underlying Tryd.underlying24, sizeOf, typeInfo, hi, Builtin.lenOf, Builtin.firstCells, hnc, storeCells]
  · obtain ⟨v', w', hr, h1, h2, _, h5⟩ := run_append_own_at (P := Tryd.prog) w B 24 ty 5 i0 (.int .u8 0) 1 1 Tryd.underlying24 hi hz0 hz1 hz2 rfl (by decide) v bs.length (byteCells bs) hown ad ns.length c (byteCells ns) (by simp [byteCells])
      (fun j z hj => by
        have hj' : j < ns.length := by
          have := (List.getElem?_eq_some_iff.1 hj).1
          simpa [byteCells] using this
        obtain ⟨b, off, e, _, hcell⟩ := hc j hj'
        simp only [Option.some.injEq] at e
        subst e
        simp [byteCells, List.getElem?_eq_getElem hj'] at hj
        subst hj
        rw [← hcell]
        by_cases hz : j = 0 <;> simp [Addr.add, hz])
      (fun z hz => by simp only [byteCells, List.mem_map] at hz; obtain ⟨b, _, rfl⟩ := hz; rfl) (by simp only [maxLen]; omega) (by omega) hB
    exact ⟨v', w', hr, by unfold OwnB; simpa [byteCells] using h1, h2, h5⟩
/-- The same as an operation, its guard none or met. -/
theorem wpList_appX {ops : Array Oper} {rest : List Oper} {o : Oper} {a : Act} {Q : Exit → Act → World → Prop} {w : World} (hw : Region.wanted o (yielded ops a.tmps) = true) (s x : Operand)
    (ho : o.op = .call { callee := .builtin .append, args := #[s, x], argTypes := #[24, 24] })
    (B : Nat) (v : Value) (bs : List UInt8) (hs : a.eval s = v) (hown : OwnB B w v bs) (hB : B ≤ w.heap.size)
    (u : Value) (ns : List UInt8) (C : Nat) (hx : a.eval x = u) (hu : Byt w C u ns)
    (h63 : bs.length + ns.length ≤ 140737488355328)
    (h : ∀ v' w', OwnB B w' v' (bs ++ ns) → w.grownBy w' v.ownBlock → (v'.ownBlock = v.ownBlock ∨ v'.ownBlock = some w.heap.size) → wpList Tryd.prog ops Q rest (a.put o.dst v') w') : wpList Tryd.prog ops Q (o :: rest) a w := by
  obtain ⟨v', w', hrun, h1, h2, h5⟩ := run_appX o.type B v bs hown hB u ns C hu h63
  refine BigFrame.wpList_want hw fun K hK => ?_
  unfold Oper.wp execOp
  simp only [ho, resolve, invoke, builtin, Sem.run_bind, Sem.run_pure, Result.andThen_ok, List.map_toArray, List.map_cons, List.map_nil, hs, hx, hrun]
  exact hK _ _ (h v' w' h1 h2 h5)

/-- Two own slices lie in two blocks. -/
def Apart (v u : Value) : Prop := ∀ g, v.ownBlock = some g → u.ownBlock ≠ some g
theorem Apart.symm {v u : Value} (h : Apart v u) : Apart u v := fun g hu hv => h g hv hu
theorem Apart.left {v v' u : Value} {w : World} {B : Nat} {us : List UInt8} (h : Apart v u) (hu : OwnB B w u us) (hv : v'.ownBlock = v.ownBlock ∨ v'.ownBlock = some w.heap.size) : Apart v' u := fun g hg => by
  rcases hv with e | e
  · exact h g (e ▸ hg)
  · intro hug
    have := (hu.lt g hug).2
    rw [e] at hg
    simp only [Option.some.injEq] at hg
    omega
theorem OwnB.kept {B : Nat} {w w' : World} {u v : Value} {us : List UInt8} (h : OwnB B w u us) (ha : Apart v u) (hg : w.grownBy w' v.ownBlock) : OwnB B w' u us := by
  refine World.ownsRow.kept h hg ?_
  rcases e : u.ownBlock with _ | k
  · exact .inl rfl
  · exact .inr (fun e2 => ha k e2.symm e)
theorem len_flatten {l : List (List UInt8)} {b : List UInt8} (h : b ∈ l) : b.length ≤ l.flatten.length := by
  induction l with
  | nil => cases h
  | cons c l ih =>
    rcases List.mem_cons.1 h with rfl | h
    · simp
    · have := ih h
      simp at this ⊢; omega

end Go.Proofs.YteebpclbpclhaaaDoor
