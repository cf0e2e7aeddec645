/-
  All but one block is as it was; slices of bytes that can be read.
-/
import Derived.Test.YtlfldnogjndglaaDoorGrU
import Derived.Maps.RangeWalk
namespace Go.Proofs.YtlfldnogjndglaaDoor
open Go.RowKit Go.Lib
set_option linter.unusedVariables false

theorem beqT {a b : Int} (h : a = b) : (a == b) = true := by simpa using h
theorem beqF {a b : Int} (h : a ≠ b) : (a == b) = false := by simpa using h
theorem bneT {a b : Int} (h : a ≠ b) : (a != b) = true := by simpa using h
theorem bneF {a b : Int} (h : a = b) : (a != b) = false := by simpa using h
/-- All but block g, and what is new, is as it was. -/
def But (g : Nat) (w w' : World) : Prop := w.grownBy w' (some g)
section
variable {g : Nat} {a b c w w' : World}
theorem But.refl (g : Nat) (w : World) : But g w w := World.grownBy.refl w _
theorem But.trans (h : But g a b) (k : But g b c) : But g a c := World.grownBy.trans h k
theorem But.size (h : But g a b) : a.heap.size ≤ b.heap.size := World.grownBy.size h
theorem But.of_below (h : Below a.heap.size a b) : But g a b := ⟨h.os, h.tape, h.output, h.size, fun i hi _ => h.block i hi⟩
theorem But.set_ {i : Nat} (h : But g a b) (u : Value) : But g a (b.setCell ⟨g, i, none⟩ u) :=
  ⟨h.os, h.tape, h.output, by simpa [World.setCell] using h.size, fun k hk hne => (Below.heap_setCell b ⟨g, i, none⟩ u k (by
    rintro rfl; exact hne rfl)).trans (h.block k hk hne)⟩
theorem But.set_new {k i : Nat} (h : But g a b) (hk : a.heap.size ≤ k) (u : Value) : But g a (b.setCell ⟨k, i, none⟩ u) :=
  ⟨h.os, h.tape, h.output, by simpa [World.setCell] using h.size, fun j hj hne => (Below.heap_setCell b ⟨k, i, none⟩ u j (by
    rintro rfl; omega)).trans (h.block j hj hne)⟩
theorem But.drew (h : But g a b) : But g a b.drew := ⟨h.os, h.tape, h.output, h.size, h.block⟩
theorem But.drewN (h : But g a b) (n : Nat) : But g a (b.drewN n) := ⟨h.os, h.tape, h.output, h.size, h.block⟩
theorem But.alloc (h : But g a b) (o : Obj) : But g a (b.alloc o) :=
  ⟨h.os, h.tape, h.output, Nat.le_trans h.size (by simp), fun i hi hne => (Below.heap_alloc b o i (Nat.lt_of_lt_of_le hi h.size)).trans (h.block i hi hne)⟩
theorem But.bel {B : Nat} {w0 : World} (h : But g w w') (k : Below B w0 w) (hB : B ≤ g) (hz : B ≤ w.heap.size) : Below B w0 w' :=
  ⟨h.os.trans k.os, h.tape.trans k.tape, h.output.trans k.output, Nat.le_trans k.size h.size, fun i hi => (h.block i (by omega) (by simp; omega)).trans (k.block i hi)⟩
theorem But.blk {j : Nat} {t : TypeId} {cs : Array Value} (h : But g w w') (k : Blk w j t cs) (hj : j ≠ g) : Blk w' j t cs := (h.block j k.lt (by simpa using hj)).trans k
theorem But.step {B : Nat} {w0 : World} (h : But g w0 w) (k : Below B w w') (hB : w0.heap.size ≤ B) : But g w0 w' :=
  ⟨k.os.trans h.os, k.tape.trans h.tape, k.output.trans h.output, Nat.le_trans h.size k.size, fun i hi hne => (k.block i (by omega)).trans (h.block i hi hne)⟩
/-- An own slice grew: block g apart, what was is as it was. -/
theorem But.own {v : Value} {bs : List UInt8} (h : But g a w) (k : w.grownBy w' v.ownBlock) (ho : OwnB a.heap.size w v bs) : But g a w' :=
  ⟨k.os.trans h.os, k.tape.trans h.tape, k.output.trans h.output, Nat.le_trans h.size k.size, fun i hi hne => (k.block i (Nat.lt_of_lt_of_le hi h.size) (fun e => by
    have := (ho.lt i e.symm).1; omega)).trans (h.block i hi hne)⟩
theorem OwnB.but {v : Value} {bs : List UInt8} {B : Nat} (h : OwnB B w v bs) (k : But g w w') (hg : v.ownBlock ≠ some g) : OwnB B w' v bs :=
  World.ownsRow.kept h k (by
    rcases e : v.ownBlock with _ | j
    · exact .inl rfl
    · exact .inr (by rw [e] at hg; exact hg))
theorem OwnB.ne {v : Value} {bs : List UInt8} {B : Nat} {t : TypeId} {cs : Array Value} (h : OwnB B w v bs) (k : Blk w g t cs) (ht : 5 ≠ t) : v.ownBlock ≠ some g := by
  rcases h.2 with ⟨rfl, _⟩ | ⟨g', cap, cur, rfl, _, hh, _⟩
  · simp [Value.ownBlock]
  · intro he
    have : g' = g := by simpa [Value.ownBlock] using he
    subst this
    unfold Blk at k
    rw [k] at hh
    injection hh with hh
    injection hh with _ h2
    exact ht h2.symm
end

/-- A slice of bytes that can be read, below block B. -/
def Byt (w : World) (B : Nat) (v : Value) (bs : List UInt8) : Prop :=
  bs.length ≤ 140737488355328 ∧ ∃ (A : Option Addr) (c : Nat), v = .slice A bs.length c ∧ bs.length ≤ c ∧ c ≤ 9223372036854775807 ∧
    ∀ j (h : j < bs.length), ∃ b off, A = some ⟨b, off, none⟩ ∧ b < B ∧ w.cell? ⟨b, off + j, none⟩ = some (.int .u8 (bs[j].toNat : Int))
section
variable {w w' : World} {B B' : Nat} {v : Value} {bs : List UInt8}
theorem Byt.keep (h : Byt w B v bs) (hk : ∀ b o z, b < B → w.cell? ⟨b, o, none⟩ = some (.int .u8 z) → w'.cell? ⟨b, o, none⟩ = some (.int .u8 z)) : Byt w' B v bs := by
  obtain ⟨h0, A, c, hv, h2, h3, hc⟩ := h
  refine ⟨h0, A, c, hv, h2, h3, fun i hi => ?_⟩
  obtain ⟨b, off, e, hlt, c1⟩ := hc i hi
  exact ⟨b, off, e, hlt, hk _ _ _ hlt c1⟩
theorem Byt.below (h : Byt w B v bs) (hb : Below B w w') : Byt w' B v bs := h.keep fun _ _ _ hlt c => by rw [hb.cell hlt]; exact c
theorem Byt.mono (h : Byt w B v bs) (hB : B ≤ B') : Byt w B' v bs := by
  obtain ⟨h0, A, c, hv, h2, h3, hc⟩ := h
  refine ⟨h0, A, c, hv, h2, h3, fun i hi => ?_⟩
  obtain ⟨b, off, e, hlt, c1⟩ := hc i hi
  exact ⟨b, off, e, by omega, c1⟩
/-- A store into a block whose cells are no bytes leaves it. -/
theorem Byt.but {g : Nat} {t : TypeId} {cs : Array Value} (h : Byt w B v bs) (hb : But g w w') (X : Blk w g t cs) (hcs : ∀ (j : Nat) (z : Int), cs[j]? ≠ some (Value.int .u8 z)) : Byt w' B v bs :=
  h.keep fun b o z hlt c => by
    have hne : b ≠ g := by
      rintro rfl
      rw [X.cell] at c
      exact hcs _ _ c
    have hlt' : b < w.heap.size := by
      rcases Nat.lt_or_ge b w.heap.size with h' | h'
      · exact h'
      · simp [World.cell?, Array.getElem?_eq_none h'] at c
    rw [World.cell?_of_block (hb.block b hlt' (by simpa using hne))]
    exact c
theorem Byt.grown {row : Option Nat} (h : Byt w B v bs) (hg : w.grownBy w' row) (hr : ∀ k, row = some k → B ≤ k) (hB : B ≤ w.heap.size) : Byt w' B v bs :=
  h.keep fun b o z hlt c => by
    rw [World.cell?_of_block (hg.block b (by show b < _; omega) (fun e => by have := hr _ e.symm; omega))]
    exact c
theorem Byt.form (h : Byt w B v bs) : ∃ A c, v = .slice A bs.length c ∧ bs.length ≤ c ∧ c ≤ 9223372036854775807 := by
  obtain ⟨_, A, c, hv, h2, h3, _⟩ := h; exact ⟨A, c, hv, h2, h3⟩
theorem Byt.len (h : Byt w B v bs) : bs.length ≤ 140737488355328 := h.1
theorem Byt.nil (w : World) (B : Nat) : Byt w B (.slice none 0 0) [] := ⟨by simp, none, 0, rfl, by simp, by simp, fun i h => by simp at h⟩
theorem Byt.at_ {A : Option Addr} {n c : Nat} (h : Byt w B (.slice A n c) bs) : n = bs.length ∧ n ≤ c ∧ ∀ j (hj : j < bs.length), ∃ b off, A = some ⟨b, off, none⟩ ∧ b < B ∧ w.cell? ⟨b, off + j, none⟩ = some (.int .u8 (bs[j].toNat : Int)) := by
  obtain ⟨_, A', c', hv, h2, _, hc⟩ := h
  simp only [Value.slice.injEq] at hv
  obtain ⟨rfl, rfl, rfl⟩ := hv
  exact ⟨rfl, h2, hc⟩
/-- Not empty: its block, its offset, all its cells. -/
theorem Byt.some_ {A : Option Addr} {n c : Nat} (h : Byt w B (.slice A n c) bs) (hn : 0 < bs.length) : ∃ b off, A = some ⟨b, off, none⟩ ∧ b < B ∧ ∀ j (hj : j < bs.length), w.cell? ⟨b, off + j, none⟩ = some (.int .u8 (bs[j].toNat : Int)) := by
  obtain ⟨_, _, hc⟩ := h.at_
  obtain ⟨b, off, e, hb, _⟩ := hc 0 hn
  refine ⟨b, off, e, hb, fun j hj => ?_⟩
  obtain ⟨b', off', e', _, c'⟩ := hc j hj
  rw [e] at e'
  simp only [Option.some.injEq, Addr.mk.injEq] at e'
  obtain ⟨rfl, rfl, _⟩ := e'
  exact c'
/-- A part of it, cut at k and at m, as the model spells its address. -/
theorem Byt.cut {A : Option Addr} {n c k m : Nat} (h : Byt w B (.slice A n c) bs) (hk : k ≤ m) (hm : m ≤ bs.length) :
    Byt w B (.slice (if c = k then A else A.map (·.add k)) (m - k) (c - k)) ((bs.take m).drop k) := by
  have h0 := h.1
  obtain ⟨hn, hc, hcell⟩ := h.at_
  have hl : ((bs.take m).drop k).length = m - k := by simp; omega
  have h63 : c ≤ 9223372036854775807 := by
    obtain ⟨A', c', hv, _, h3⟩ := h.form
    simp only [Value.slice.injEq] at hv
    obtain ⟨_, _, rfl⟩ := hv; exact h3
  refine ⟨by omega, _, c - k, by rw [hl], by omega, by omega, fun j hj => ?_⟩
  have hj' : k + j < bs.length := by omega
  obtain ⟨b, off, rfl, hb, c1⟩ := hcell (k + j) hj'
  rw [if_neg (by omega)]
  refine ⟨b, off + k, by simp [Addr.add]; try (by_cases hk0 : k = 0 <;> simp [hk0]), hb, ?_⟩
  have e : ((bs.take m).drop k)[j] = bs[k + j] := by simp
  rw [e, Nat.add_assoc]
  exact c1
theorem Byt.cutS {b off n c k m : Nat} (h : Byt w B (.slice (some ⟨b, off, none⟩) n c) bs) (hk : k ≤ m) (hm : m ≤ bs.length) (hc : k < c) :
    Byt w B (.slice (some ⟨b, off + k, none⟩) (m - k) (c - k)) ((bs.take m).drop k) := by
  have h1 := h.cut hk hm
  rw [if_neg (by omega)] at h1
  have e : Option.map (fun x : Addr => x.add k) (some ⟨b, off, none⟩) = some ⟨b, off + k, none⟩ := by
    by_cases hz : k = 0 <;> simp [Addr.add, hz]
  rwa [e] at h1
theorem Byt.take0 {A : Option Addr} {n c m : Nat} (h : Byt w B (.slice A n c) bs) (hm : m ≤ bs.length) : Byt w B (.slice A m c) (bs.take m) := by
  have h0 := h.1
  obtain ⟨hn, hc, hcell⟩ := h.at_
  obtain ⟨_, A', c', hv, _, h3, _⟩ := h
  simp only [Value.slice.injEq] at hv
  obtain ⟨rfl, _, rfl⟩ := hv
  have hl : (bs.take m).length = m := by simp; omega
  refine ⟨by omega, _, c, by rw [hl], by omega, h3, fun j hj => ?_⟩
  obtain ⟨b, off, e, hb, c1⟩ := hcell j (by omega)
  exact ⟨b, off, e, hb, by simpa using c1⟩
theorem Byt.via {w0 : World} (h : Byt w B v bs) (h1 : Below B w0 w) (h2 : Below B w0 w') : Byt w' B v bs := h.keep fun b o z hlt c => by
  rw [h2.cell hlt, ← h1.cell hlt]; exact c
/-- 'b[k:]', run: its value under a name. -/
theorem Byt.cutrun {A : Option Addr} {n c k : Nat} (h : Byt w B (.slice A n c) bs) (hk : k ≤ bs.length) :
    ∃ (C : Option Addr) (c' : Nat), (∀ W, (Instr.slice 61 (.slice A n c) (some (.int .i64 (k : Int))) none none).run Tryd.prog W = .ok (.slice C (bs.length - k) c') W) ∧
      (∀ W, (Instr.sliceAt 61 (.slice A n c) (some (.int .i64 (k : Int))) none none).run Tryd.prog W = .ok (.slice C (bs.length - k) c') W) ∧ Byt w B (.slice C (bs.length - k) c') (bs.drop k) := by
  have h1 := h.cut hk (Nat.le_refl _)
  obtain ⟨hn, hc, _⟩ := h.at_
  have ht : Tryd.prog.underlying 61 = some (.slice (Tryd.prog.elem 61)) := by kernel_rfl
  have hs : ∀ W, (sizeOf (Tryd.prog.elem 61)).run Tryd.prog W = .ok 1 W := fun W => by kernel_rfl
  have e : ∀ W, (Instr.slice 61 (.slice A n c) (some (.int .i64 (k : Int))) none none).run Tryd.prog W = .ok (.slice (if c = k then A else A.map (·.add k)) (bs.length - k) (c - k)) W := fun W => by
    rw [run_slice_l W 61 A n c ht .i64 (k : Int) (by omega) (by omega), hs]
    simp only [Result.andThen_ok]
    unfold sliced
    simp [hn]
  refine ⟨_, _, e, fun W => ?_, by simpa using h1⟩
  rw [run_sliceAt_slice W 61 _ _ _ _ ht]
  exact e W
theorem Byt.empty (w : World) (B : Nat) (A : Option Addr) (c : Nat) (hc : c ≤ 9223372036854775807) : Byt w B (.slice A 0 c) [] := ⟨by simp, A, c, rfl, by simp, hc, fun i h => by simp at h⟩
theorem Blk.grownO {g : Nat} {t : TypeId} {cs : Array Value} {row : Option Nat} (h : Blk w g t cs) (hb : w.grownBy w' row) (hg : row ≠ some g) : Blk w' g t cs := (hb.block g h.lt (fun e => hg e.symm)).trans h
theorem OwnB.byt (h : OwnB B w v bs) (h0 : bs.length ≤ 140737488355328) : Byt w w.heap.size v bs := by
  rcases h.form with ⟨rfl, rfl⟩ | ⟨g, cap, rfl, _, h2, h3, h4, hc⟩
  · exact Byt.nil _ _
  · exact ⟨h0, _, cap, rfl, h3, by unfold maxLen at h4; omega, fun j hj => ⟨g, 0, rfl, h2, by simpa using hc j hj⟩⟩
end

/-- append onto an own slice of bytes that can be read: its run. -/
theorem run_appG {w : World} (ty : TypeId) (B : Nat) (v : Value) (bs : List UInt8) (hown : OwnB B w v bs) (hB : B ≤ w.heap.size) (u : Value) (ns : List UInt8) (C : Nat) (hu : Byt w C u ns)
    (h63 : bs.length + ns.length ≤ 140737488355328) :
    ∃ v' w', (Builtin.append_ #[61, 61] ty #[v, u]).run Tryd.prog w = .ok v' w' ∧ OwnB B w' v' (bs ++ ns) ∧ w.grownBy w' v.ownBlock := by
  obtain ⟨i0, hi, hz0, hz1, hz2⟩ := info_parts u8_info
  obtain ⟨A, c, rfl, _, _⟩ := hu.form
  obtain ⟨_, _, hc⟩ := hu.at_
  rcases A with _ | ad
  · have hn : ns = [] := by
      rcases ns with _ | ⟨b, ns⟩
      · rfl
      · obtain ⟨_, _, e, _⟩ := hc 0 (by simp)
        cases e
    subst hn
    refine ⟨v, w, ?_, by simpa using hown, World.grownBy.refl w _⟩
    rcases hown.2 with ⟨rfl, _⟩ | ⟨g, cap, cur, rfl, _, _, hnc, _⟩
    · simp [Builtin.append_, run_underlying Tryd.underlying61, sizeOf, typeInfo, hi, Builtin.lenOf, Builtin.firstCells]
    · simp [Builtin.append_, run_underlying Tryd.underlying61, sizeOf, typeInfo, hi, Builtin.lenOf, Builtin.firstCells, hnc, storeCells]
  · obtain ⟨v', w', hr, h1, h2, _, _⟩ := run_append_own_at (P := Tryd.prog) w B 61 ty 5 i0 (.int .u8 0) 1 1 Tryd.underlying61 hi hz0 hz1 hz2 rfl (by decide) v bs.length (byteCells bs) hown ad ns.length c (byteCells ns) (by simp [byteCells])
      (fun j z hj => by
        have hj' : j < ns.length := by
          have := (List.getElem?_eq_some_iff.1 hj).1
          simpa [byteCells] using this
        obtain ⟨b, off, e, _, hcell⟩ := hc j hj'
        simp only [Option.some.injEq] at e
        subst e
        simp [byteCells, List.getElem?_eq_getElem hj'] at hj
        subst hj
        rw [← hcell]
        by_cases hz : j = 0 <;> simp [Addr.add, hz])
      (fun z hz => by simp only [byteCells, List.mem_map] at hz; obtain ⟨b, _, rfl⟩ := hz; rfl) (by simp only [maxLen]; omega) (by omega) hB
    exact ⟨v', w', hr, by unfold OwnB; simpa [byteCells] using h1, h2⟩
/-- The same as an operation, its guard none or met. -/
theorem wpList_appW {ops : Array Oper} {rest : List Oper} {o : Oper} {a : Act} {Q : Exit → Act → World → Prop} {w : World} (hw : Region.wanted o (yielded ops a.tmps) = true) (s x : Operand)
    (ho : o.op = .call { callee := .builtin .append, args := #[s, x], argTypes := #[61, 61] })
    (B : Nat) (v : Value) (bs : List UInt8) (hs : a.eval s = v) (hown : OwnB B w v bs) (hB : B ≤ w.heap.size)
    (u : Value) (ns : List UInt8) (C : Nat) (hx : a.eval x = u) (hu : Byt w C u ns)
    (h63 : bs.length + ns.length ≤ 140737488355328)
    (h : ∀ v' w', OwnB B w' v' (bs ++ ns) → w.grownBy w' v.ownBlock → wpList Tryd.prog ops Q rest (a.put o.dst v') w') : wpList Tryd.prog ops Q (o :: rest) a w := by
  obtain ⟨v', w', hrun, h1, h2⟩ := run_appG o.type B v bs hown hB u ns C hu h63
  refine BigFrame.wpList_want hw fun K hK => ?_
  unfold Oper.wp execOp
  simp only [ho, resolve, invoke, builtin, Sem.run_bind, Sem.run_pure, Result.andThen_ok, List.map_toArray, List.map_cons, List.map_nil, hs, hx, hrun]
  exact hK _ _ (h v' w' h1 h2)
theorem wpList_appG {ops : Array Oper} {rest : List Oper} {o : Oper} {a : Act} {Q : Exit → Act → World → Prop} {w : World} (hgd : o.guard = none) (s x : Operand)
    (ho : o.op = .call { callee := .builtin .append, args := #[s, x], argTypes := #[61, 61] })
    (B : Nat) (v : Value) (bs : List UInt8) (hs : a.eval s = v) (hown : OwnB B w v bs) (hB : B ≤ w.heap.size)
    (u : Value) (ns : List UInt8) (C : Nat) (hx : a.eval x = u) (hu : Byt w C u ns)
    (h63 : bs.length + ns.length ≤ 140737488355328)
    (h : ∀ v' w', OwnB B w' v' (bs ++ ns) → w.grownBy w' v.ownBlock → wpList Tryd.prog ops Q rest (a.put o.dst v') w') : wpList Tryd.prog ops Q (o :: rest) a w :=
  wpList_appW (by simp [Region.wanted, hgd]) s x ho B v bs hs hown hB u ns C hx hu h63 h
end Go.Proofs.YtlfldnogjndglaaDoor
