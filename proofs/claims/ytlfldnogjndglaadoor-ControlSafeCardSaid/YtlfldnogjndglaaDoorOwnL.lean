/-
  Slices of elements of several cells: read as a list; owned and appended to.
-/
import Derived.Test.YtlfldnogjndglaaDoorGrU
import Derived.Maps.AppendAt
import Derived.Handy
namespace Go.Proofs.YtlfldnogjndglaaDoor
open Go.RowKit
set_option linter.unusedVariables false

/-- How an element lies in its cells. -/
structure Lay (α : Type) where
  t : TypeId
  e : TypeId
  n : Nat
  bytes : Nat
  enc : α → List Value
  len : ∀ x, (enc x).length = n
  one : ∀ x, ∀ u ∈ enc x, u.oneCell' = true
  pos : 0 < n
  z : Value
  ht : Tryd.prog.underlying t = some (.slice e)
  info : (Tryd.prog.info? e).map (fun i => (i.zero, i.size, i.bytes)) = some (some z, n, bytes)
  zs : z.cells.size = n

section
variable {α : Type} {L : Lay α}
theorem flat_len (L : Lay α) (l : List α) : (l.flatMap L.enc).length = l.length * L.n := by
  induction l with
  | nil => simp
  | cons x l ih => rw [List.flatMap_cons, List.length_append, ih, L.len, List.length_cons, Nat.succ_mul, Nat.add_comm]
theorem flat_at (L : Lay α) : ∀ (l : List α) (i : Nat) (h : i < l.length) (j : Nat), j < L.n → (l.flatMap L.enc)[i * L.n + j]? = (L.enc l[i])[j]?
  | x :: l, 0, _, j, hj => by
    rw [List.flatMap_cons, Nat.zero_mul, Nat.zero_add, List.getElem?_append_left (by rw [L.len]; exact hj)]; rfl
  | x :: l, i + 1, h, j, hj => by
    rw [List.flatMap_cons, List.getElem?_append_right (by rw [L.len, Nat.succ_mul]; omega), L.len,
      show (i + 1) * L.n + j - L.n = i * L.n + j by rw [Nat.succ_mul]; omega]
    exact flat_at L l i (by simpa using h) j hj
theorem flat_of (L : Lay α) {l : List α} {k : Nat} {u : Value} (h : (l.flatMap L.enc)[k]? = some u) : ∃ i j, ∃ hi : i < l.length, j < L.n ∧ k = i * L.n + j ∧ (L.enc l[i])[j]? = some u := by
  have hk := (List.getElem?_eq_some_iff.1 h).1
  rw [flat_len] at hk
  have hd := Nat.div_add_mod k L.n
  have hm := Nat.mod_lt k L.pos
  have hi : k / L.n < l.length := (Nat.div_lt_iff_lt_mul L.pos).2 hk
  have e : k = k / L.n * L.n + k % L.n := by rw [Nat.mul_comm]; exact hd.symm
  refine ⟨k / L.n, k % L.n, hi, hm, e, ?_⟩
  rw [← flat_at L l _ hi _ hm, ← e]; exact h

/-- v is a slice that reads as l, below block B. -/
def RdL (L : Lay α) (w : World) (B : Nat) (v : Value) (l : List α) : Prop :=
  l.length ≤ 9223372036854775807 ∧ ∃ (A : Option Addr) (c : Nat), v = .slice A l.length c ∧ l.length ≤ c ∧ c ≤ 9223372036854775807 ∧
    ∀ i (h : i < l.length), ∃ b off, A = some ⟨b, off, none⟩ ∧ b < B ∧ ∀ j u, (L.enc l[i])[j]? = some u → w.cell? ⟨b, off + i * L.n + j, none⟩ = some u
/-- v is a slice of the call's own, from block B on, that holds l. -/
def OwnL (L : Lay α) (B : Nat) (w : World) (v : Value) (l : List α) : Prop := w.ownsRow B L.e L.n v l.length (l.flatMap L.enc)

theorem RdL.below {w w' : World} {B : Nat} {v : Value} {l : List α} (h : RdL L w B v l) (hb : Below B w w') : RdL L w' B v l := by
  obtain ⟨h0, A, c, hv, h2, h3, hc⟩ := h
  refine ⟨h0, A, c, hv, h2, h3, fun i hi => ?_⟩
  obtain ⟨b, off, e, hlt, c1⟩ := hc i hi
  exact ⟨b, off, e, hlt, fun j u hu => by rw [hb.cell hlt]; exact c1 j u hu⟩
theorem RdL.mono {w : World} {B B' : Nat} {v : Value} {l : List α} (h : RdL L w B v l) (hB : B ≤ B') : RdL L w B' v l := by
  obtain ⟨h0, A, c, hv, h2, h3, hc⟩ := h
  refine ⟨h0, A, c, hv, h2, h3, fun i hi => ?_⟩
  obtain ⟨b, off, e, hlt, c1⟩ := hc i hi
  exact ⟨b, off, e, by omega, c1⟩
theorem RdL.form {w : World} {B : Nat} {v : Value} {l : List α} (h : RdL L w B v l) : ∃ A c, v = .slice A l.length c ∧ l.length ≤ c ∧ c ≤ 9223372036854775807 := by
  obtain ⟨_, A, c, hv, h2, h3, _⟩ := h; exact ⟨A, c, hv, h2, h3⟩
theorem RdL.nil (w : World) (B c : Nat) (A : Option Addr) (hc : c ≤ 9223372036854775807) : RdL L w B (.slice A 0 c) [] := ⟨by simp, A, c, rfl, by simp, hc, fun i h => by simp at h⟩
theorem RdL.len {w : World} {B : Nat} {v : Value} {l : List α} (h : RdL L w B v l) : l.length ≤ 9223372036854775807 := h.1
/-- The cells of an element. -/
theorem RdL.at_ {w : World} {B n c : Nat} {A : Option Addr} {l : List α} (h : RdL L w B (.slice A n c) l) (i : Nat) (hi : i < l.length) : ∃ b off, A = some ⟨b, off, none⟩ ∧ b < B ∧ ∀ j u, (L.enc l[i])[j]? = some u → w.cell? ⟨b, off + i * L.n + j, none⟩ = some u := by
  obtain ⟨_, A', c', hv, _, _, hc⟩ := h
  simp only [Value.slice.injEq] at hv
  obtain ⟨rfl, _, rfl⟩ := hv
  exact hc i hi

theorem OwnL.nil (L : Lay α) (B : Nat) (w : World) : OwnL L B w (.slice none 0 0) [] := World.ownsRow_nil w B _ _
theorem OwnL.lt {B : Nat} {w : World} {v : Value} {l : List α} (h : OwnL L B w v l) : ∀ k, v.ownBlock = some k → B ≤ k ∧ k < w.heap.size := World.ownsRow.lt h
theorem OwnL.alloc {B : Nat} {w : World} {v : Value} {l : List α} (h : OwnL L B w v l) (o : Obj) : OwnL L B (w.alloc o) v l := World.ownsRow.alloc h o
theorem OwnL.drew {B : Nat} {w : World} {v : Value} {l : List α} (h : OwnL L B w v l) : OwnL L B w.drew v l := h
theorem OwnL.drewN {B : Nat} {w : World} {v : Value} {l : List α} (h : OwnL L B w v l) (n : Nat) : OwnL L B (w.drewN n) v l := h
theorem OwnL.below {B C : Nat} {w w' : World} {v : Value} {l : List α} (h : OwnL L B w v l) (hb : Below C w w') (hC : w.heap.size ≤ C) : OwnL L B w' v l := by
  have hg : w.grownBy w' none := ⟨hb.os, hb.tape, hb.output, hb.size, fun k hk _ => hb.block k (by omega)⟩
  refine World.ownsRow.kept h hg ?_
  rcases e : v.ownBlock with _ | k
  · exact .inl rfl
  · exact .inr (by simp)
theorem OwnL.mono {B C : Nat} {w : World} {v : Value} {l : List α} (h : OwnL L B w v l) (hC : C ≤ B) : OwnL L C w v l := by
  refine ⟨h.1, h.2.imp id ?_⟩
  rintro ⟨g, cap, cur, h1, h2, h3⟩
  exact ⟨g, cap, cur, h1, Nat.le_trans hC h2, h3⟩
theorem OwnL.far {B : Nat} {w : World} {v : Value} {l : List α} (h : OwnL L B w v l) {p : Addr} (hp : v.ownBlock ≠ some p.block) (u : Value) : OwnL L B (w.setCell p u) v l := by
  have hg : w.grownBy (w.setCell p u) (some p.block) := ⟨rfl, rfl, rfl, by simp [World.setCell], fun k hk hne => Below.heap_setCell w p u k (fun e => hne (by rw [e]))⟩
  exact World.ownsRow.kept h hg (.inr hp)
theorem OwnL.kept {B : Nat} {w w' : World} {v : Value} {l : List α} {row : Option Nat} (h : OwnL L B w v l) (hg : w.grownBy w' row) (hne : v.ownBlock = none ∨ v.ownBlock ≠ row) : OwnL L B w' v l := World.ownsRow.kept h hg hne
/-- Rows of different elements share no block. -/
theorem OwnL.apart {β : Type} {M : Lay β} {B C : Nat} {w : World} {v u : Value} {l : List α} {m : List β} (h : OwnL L B w v l) (k : OwnL M C w u m) (hne : L.e ≠ M.e) : v.ownBlock = none ∨ v.ownBlock ≠ u.ownBlock := by
  rcases h.2 with ⟨rfl, _⟩ | ⟨g, cap, cur, rfl, _, hg, _⟩
  · exact .inl rfl
  · rcases k.2 with ⟨rfl, _⟩ | ⟨g', cap', cur', rfl, _, hg', _⟩
    · right; simp [Value.ownBlock]
    · right
      intro e
      simp only [Value.ownBlock, Option.some.injEq] at e
      subst e
      rw [hg] at hg'
      injection hg' with hg'
      injection hg' with _ ht
      exact hne ht
theorem OwnL.made (L : Lay α) (w : World) (cur : Array Value) (cap B : Nat) (hb : B ≤ w.heap.size) (hm : cap ≤ maxLen) (hs : cur.size = cap * L.n) : OwnL L B (w.alloc (.cells cur L.e)) (.slice (some ⟨w.heap.size, 0, none⟩) 0 cap) [] := by
  unfold OwnL
  have hg : (w.alloc (.cells cur L.e)).heap[w.heap.size]? = some (.cells cur L.e (0, 0)) := heap_alloc_new w _
  exact ⟨by simp, .inr ⟨w.heap.size, cap, cur, rfl, hb, hg, Nat.zero_le _, hm, hs, by simp⟩⟩
theorem OwnL.rd {B : Nat} {w : World} {v : Value} {l : List α} (h : OwnL L B w v l) : RdL L w w.heap.size v l := by
  have hl := OwnL.lt h
  have hc := fun (g : Nat) (hg : v.ownBlock = some g) => World.ownsRow.cells h hg
  rcases h.2 with ⟨rfl, hx⟩ | ⟨g, cap, cur, rfl, hbg, hg, hnc, hcm, _, _⟩
  · obtain rfl : l = [] := List.eq_nil_of_length_eq_zero hx
    exact RdL.nil _ _ _ _ (by omega)
  · unfold maxLen at hcm
    refine ⟨by omega, _, cap, rfl, hnc, by omega, fun i hi => ⟨g, 0, rfl, (hl g rfl).2, fun j u hu => ?_⟩⟩
    have hj : j < L.n := by
      have := (List.getElem?_eq_some_iff.1 hu).1
      rw [L.len] at this; exact this
    have := hc g rfl (i * L.n + j) u (by rw [flat_at L l i hi j hj]; exact hu)
    simpa [Addr.add_lit] using this

/-- append onto an own slice of what can be read: its run. -/
theorem run_appL {w : World} (ty : TypeId) (B : Nat) (v : Value) (l : List α) (hown : OwnL L B w v l) (hB : B ≤ w.heap.size) (u : Value) (ns : List α) (C : Nat) (hu : RdL L w C u ns)
    (hL : L.bytes ≤ 1024) (h63 : l.length + ns.length ≤ 1000000000) :
    ∃ v' w', (Builtin.append_ #[L.t, L.t] ty #[v, u]).run Tryd.prog w = .ok v' w' ∧ OwnL L B w' v' (l ++ ns) ∧ w.grownBy w' v.ownBlock ∧ (v'.ownBlock = v.ownBlock ∨ v'.ownBlock = some w.heap.size) := by
  obtain ⟨i0, hi, hz0, hz1, hz2⟩ := info_parts L.info
  obtain ⟨A, c, rfl, _, _⟩ := hu.form
  have hc := hu.at_
  rcases A with _ | ad
  · have hn : ns = [] := by
      rcases ns with _ | ⟨b, ns⟩
      · rfl
      · obtain ⟨_, _, e, _⟩ := hc 0 (by simp)
        cases e
    subst hn
    refine ⟨v, w, ?_, by simpa using hown, World.grownBy.refl w _, .inl rfl⟩
    rcases hown.2 with ⟨rfl, _⟩ | ⟨g, cap, cur, rfl, _, _, hnc, _⟩
    · simp [Builtin.append_, run_underlying L.ht, sizeOf, typeInfo, hi, Builtin.lenOf, Builtin.firstCells]
    · simp [Builtin.append_, run_underlying L.ht, sizeOf, typeInfo, hi, Builtin.lenOf, Builtin.firstCells, hnc, storeCells]
  · obtain ⟨v', w', hr, h1, h2, _, h5⟩ := run_append_own_at (P := Tryd.prog) w B L.t ty L.e i0 L.z L.n L.bytes L.ht hi hz0 hz1 hz2 L.zs L.pos v l.length (l.flatMap L.enc) hown ad ns.length c (ns.flatMap L.enc) (flat_len L ns)
      (fun k z hk => by
        obtain ⟨i, j, hi', hj, rfl, hz⟩ := flat_of L hk
        obtain ⟨b, off, e, _, hcell⟩ := hc i hi'
        simp only [Option.some.injEq] at e
        subst e
        rw [← hcell j z hz, Addr.add_lit, Nat.add_assoc])
      (fun z hz => by
        obtain ⟨x, _, hx⟩ := List.mem_flatMap.1 hz
        exact L.one x z hx) (by simp only [maxLen]; omega) (by
          have : (l.length + ns.length) * L.bytes ≤ 1000000000 * 1024 := Nat.mul_le_mul h63 hL
          omega) hB
    exact ⟨v', w', hr, by unfold OwnL; rw [List.length_append, List.flatMap_append]; exact h1, h2, h5⟩
/-- The same as an operation. -/
theorem wpList_appL (L : Lay α) {ops : Array Oper} {rest : List Oper} {o : Oper} {a : Act} {Q : Exit → Act → World → Prop} {w : World} (w0 : World) (hgd : o.guard = none) (s x : Operand) (t1 t2 : TypeId)
    (ho : o.op = .call { callee := .builtin .append, args := #[s, x], argTypes := #[t1, t2] }) (ht1 : t1 = L.t) (ht2 : t2 = L.t)
    (B : Nat) (v : Value) (l : List α) (hs : a.eval s = v) (hown : OwnL L B w v l) (hb0 : Below B w0 w) (hB : B ≤ w.heap.size)
    (u : Value) (ns : List α) (C : Nat) (hx : a.eval x = u) (hu : RdL L w C u ns)
    (hL : L.bytes ≤ 1024) (h63 : l.length + ns.length ≤ 1000000000)
    (h : ∀ v' w', OwnL L B w' v' (l ++ ns) → Below B w0 w' → w.grownBy w' v.ownBlock → (v'.ownBlock = v.ownBlock ∨ v'.ownBlock = some w.heap.size) → wpList Tryd.prog ops Q rest (a.put o.dst v') w') : wpList Tryd.prog ops Q (o :: rest) a w := by
  subst ht1 ht2
  obtain ⟨v', w', hrun, h1, h2, h5⟩ := run_appL o.type B v l hown hB u ns C hu hL h63
  refine wpList_plain hgd fun K hK => ?_
  unfold Oper.wp execOp
  simp only [ho, resolve, invoke, builtin, Sem.run_bind, Sem.run_pure, Result.andThen_ok, List.map_toArray, List.map_cons, List.map_nil, hs, hx, hrun]
  have hr : ∀ k, v.ownBlock = some k → B ≤ k := fun k hk => (hown.lt k hk).1
  exact hK _ _ (h v' w' h1 (hb0.grown h2 hB hr) h2 h5)
/-- One element that lies in a block of its own reads as a list of one. -/
theorem RdL.one_ {w : World} {g : Nat} {t : TypeId} {x : α} {cs : Array Value} (h : Blk w g t cs) (hcs : cs.toList = L.enc x) : RdL L w w.heap.size (.slice (some ⟨g, 0, none⟩) 1 1) [x] :=
  ⟨by simp, _, 1, rfl, by simp, by omega, fun i hi => ⟨g, 0, rfl, h.lt, fun j u hu => by
    obtain rfl : i = 0 := by simpa using hi
    simp only [List.getElem_cons_zero, ← hcs] at hu
    rw [h.cell]
    simpa using hu⟩⟩
/-- A block that holds just some elements reads as their list. -/
theorem RdL.blk {w : World} {g n : Nat} {t : TypeId} {l : List α} {cs : Array Value} (h : Blk w g t cs) (hcs : cs.toList = l.flatMap L.enc) (hn : n = l.length) (hl : l.length ≤ 1000000) : RdL L w w.heap.size (.slice (some ⟨g, 0, none⟩) n n) l :=
  ⟨by omega, some ⟨g, 0, none⟩, n, by rw [hn], by omega, by omega, fun i hi => ⟨g, 0, rfl, h.lt, fun j u hu => by
    have hj : j < L.n := by
      have := (List.getElem?_eq_some_iff.1 hu).1
      rw [L.len] at this; exact this
    rw [h.cell, ← Array.getElem?_toList, hcs, Nat.zero_add, flat_at L l i hi j hj]
    exact hu⟩⟩
end
end Go.Proofs.YtlfldnogjndglaaDoor
