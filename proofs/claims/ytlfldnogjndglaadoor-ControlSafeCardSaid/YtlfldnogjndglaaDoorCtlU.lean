/-
  An append that is guarded; blocks made beside calls.
-/
import Derived.Test.YtlfldnogjndglaaDoorCtlV
import Derived.Test.YtlfldnogjndglaaDoorBut
import Derived.Deep.MidRow
namespace Go.Proofs.YtlfldnogjndglaaDoor
open Go.RowKit
set_option linter.unusedVariables false
set_option linter.unusedSimpArgs false

/-- append onto an own slice, its guard none or met. -/
theorem wpList_appLW {α : Type} (L : Lay α) {ops : Array Oper} {rest : List Oper} {o : Oper} {a : Act} {Q : Exit → Act → World → Prop} {w : World} (w0 : World) (hw : Region.wanted o (yielded ops a.tmps) = true) (s x : Operand) (t1 t2 : TypeId)
    (ho : o.op = .call { callee := .builtin .append, args := #[s, x], argTypes := #[t1, t2] }) (ht1 : t1 = L.t) (ht2 : t2 = L.t)
    (B : Nat) (v : Value) (l : List α) (hs : a.eval s = v) (hown : OwnL L B w v l) (hb0 : Below B w0 w) (hB : B ≤ w.heap.size)
    (u : Value) (ns : List α) (C : Nat) (hx : a.eval x = u) (hu : RdL L w C u ns)
    (hL : L.bytes ≤ 1024) (h63 : l.length + ns.length ≤ 1000000000)
    (h : ∀ v' w', OwnL L B w' v' (l ++ ns) → Below B w0 w' → wpList Tryd.prog ops Q rest (a.put o.dst v') w') : wpList Tryd.prog ops Q (o :: rest) a w := by
  subst ht1 ht2
  obtain ⟨v', w', hrun, h1, h2, _⟩ := run_appL o.type B v l hown hB u ns C hu hL h63
  refine BigFrame.wpList_want hw fun K hK => ?_
  unfold Oper.wp execOp
  simp only [ho, resolve, invoke, builtin, Sem.run_bind, Sem.run_pure, Result.andThen_ok, List.map_toArray, List.map_cons, List.map_nil, hs, hx, hrun]
  have hr : ∀ k, v.ownBlock = some k → B ≤ k := fun k hk => (hown.lt k hk).1
  exact hK _ _ (h v' w' h1 (hb0.grown h2 hB hr))
/-- append onto an own slice of strings, as long as memory bears it. -/
theorem run_appS {w : World} (ty : TypeId) (B : Nat) (v : Value) (l : List Bs) (hown : OwnL LS B w v l) (hB : B ≤ w.heap.size) (u : Value) (ns : List Bs) (C : Nat) (hu : RdL LS w C u ns) (h63 : (l.length + ns.length) * 16 ≤ 140737488355328) :
    ∃ v' w', (Builtin.append_ #[LS.t, LS.t] ty #[v, u]).run Tryd.prog w = .ok v' w' ∧ OwnL LS B w' v' (l ++ ns) ∧ w.grownBy w' v.ownBlock := by
  obtain ⟨i0, hi, hz0, hz1, hz2⟩ := info_parts LS.info
  obtain ⟨A, c, rfl, _, _⟩ := hu.form
  have hc := hu.at_
  rcases A with _ | ad
  · have hn : ns = [] := by
      rcases ns with _ | ⟨b, ns⟩
      · rfl
      · obtain ⟨_, _, e, _⟩ := hc 0 (by simp)
        cases e
    subst hn
    refine ⟨v, w, ?_, by simpa using hown, World.grownBy.refl w _⟩
    rcases hown.2 with ⟨rfl, _⟩ | ⟨g, cap, cur, rfl, _, _, hnc, _⟩
    · simp [Builtin.append_, run_underlying LS.ht, sizeOf, typeInfo, hi, Builtin.lenOf, Builtin.firstCells]
    · simp [Builtin.append_, run_underlying LS.ht, sizeOf, typeInfo, hi, Builtin.lenOf, Builtin.firstCells, hnc, storeCells]
  · obtain ⟨v', w', hr, h1, h2, _, _⟩ := run_append_own_at (P := Tryd.prog) w B LS.t ty LS.e i0 LS.z LS.n LS.bytes LS.ht hi hz0 hz1 hz2 LS.zs LS.pos v l.length (l.flatMap LS.enc) hown ad ns.length c (ns.flatMap LS.enc) (flat_len LS ns)
      (fun k z hk => by
        obtain ⟨i, j, hi', hj, rfl, hz⟩ := flat_of LS hk
        obtain ⟨b, off, e, _, hcell⟩ := hc i hi'
        simp only [Option.some.injEq] at e
        subst e
        rw [← hcell j z hz, Addr.add_lit, Nat.add_assoc])
      (fun z hz => by
        obtain ⟨x, _, hx⟩ := List.mem_flatMap.1 hz
        exact LS.one x z hx) (by simp only [maxLen]; omega) h63 hB
    exact ⟨v', w', hr, by unfold OwnL; rw [List.length_append, List.flatMap_append]; exact h1, h2⟩
theorem wpList_appS {ops : Array Oper} {rest : List Oper} {o : Oper} {a : Act} {Q : Exit → Act → World → Prop} {w : World} (w0 : World) (hw : Region.wanted o (yielded ops a.tmps) = true) (s x : Operand) (t1 t2 : TypeId)
    (ho : o.op = .call { callee := .builtin .append, args := #[s, x], argTypes := #[t1, t2] }) (ht1 : t1 = LS.t) (ht2 : t2 = LS.t)
    (B : Nat) (v : Value) (l : List Bs) (hs : a.eval s = v) (hown : OwnL LS B w v l) (hb0 : Below B w0 w) (hB : B ≤ w.heap.size)
    (u : Value) (ns : List Bs) (C : Nat) (hx : a.eval x = u) (hu : RdL LS w C u ns) (h63 : (l.length + ns.length) * 16 ≤ 140737488355328)
    (h : ∀ v' w', OwnL LS B w' v' (l ++ ns) → Below B w0 w' → wpList Tryd.prog ops Q rest (a.put o.dst v') w') : wpList Tryd.prog ops Q (o :: rest) a w := by
  subst ht1 ht2
  obtain ⟨v', w', hrun, h1, h2⟩ := run_appS o.type B v l hown hB u ns C hu h63
  refine BigFrame.wpList_want hw fun K hK => ?_
  unfold Oper.wp execOp
  simp only [ho, resolve, invoke, builtin, Sem.run_bind, Sem.run_pure, Result.andThen_ok, List.map_toArray, List.map_cons, List.map_nil, hs, hx, hrun]
  have hr : ∀ k, v.ownBlock = some k → B ≤ k := fun k hk => (hown.lt k hk).1
  exact hK _ _ (h v' w' h1 (hb0.grown h2 hB hr))
theorem new_below2 {X w' : World} {t t2 : TypeId} {cs cs2 : Array Value} (hb : Below ((X.alloc (.cells cs2 t2)).alloc (.cells cs t)).heap.size ((X.alloc (.cells cs2 t2)).alloc (.cells cs t)) w') : Blk w' (X.heap.size + 1) t cs := (Blk.new' (by simp)).below hb (by simp)
theorem new_below_prev {X w' : World} {t t2 : TypeId} {cs cs2 : Array Value} (hb : Below ((X.alloc (.cells cs t)).alloc (.cells cs2 t2)).heap.size ((X.alloc (.cells cs t)).alloc (.cells cs2 t2)) w') : Blk w' X.heap.size t cs := ((Blk.new X t cs).alloc _).below hb (by simp; omega)
theorem new_below2d {X w' : World} {t t2 : TypeId} {cs cs2 : Array Value} (hb : Below ((X.alloc (.cells cs2 t2)).alloc (.cells cs t)).drew.heap.size ((X.alloc (.cells cs2 t2)).alloc (.cells cs t)).drew w') : Blk w' (X.heap.size + 1) t cs := new_below2 ⟨hb.os, hb.tape, hb.output, hb.size, hb.block⟩
theorem new_below_prevd {X w' : World} {t t2 : TypeId} {cs cs2 : Array Value} (hb : Below ((X.alloc (.cells cs t)).alloc (.cells cs2 t2)).drew.heap.size ((X.alloc (.cells cs t)).alloc (.cells cs2 t2)).drew w') : Blk w' X.heap.size t cs := new_below_prev ⟨hb.os, hb.tape, hb.output, hb.size, hb.block⟩
theorem But.setCellsS {g : Nat} {a : World} : ∀ (vs : List Value) (o : Nat) {b : World}, But g a b → But g a (b.setCells g o vs)
  | [], _, _, h => h
  | v :: r, o, _, h => But.setCellsS r (o + 1) (h.set_ v)
theorem Blk.setCellsS {g : Nat} {t : TypeId} : ∀ (vs : List Value) (o : Nat) {w : World} {zs : Array Value}, Blk w g t zs → o + vs.length ≤ zs.size →
    ∃ ys : Array Value, Blk (w.setCells g o vs) g t ys ∧ ys.size = zs.size ∧ ∀ i, ys[i]? = if o ≤ i ∧ i < o + vs.length then vs[i - o]? else zs[i]?
  | [], o, w, zs, h, _ => ⟨zs, h, rfl, fun i => by rw [if_neg (by simp <;> omega)]⟩
  | v :: r, o, w, zs, h, hl => by
    have hlen : (v :: r).length = r.length + 1 := rfl
    obtain ⟨ys, h1, h2, h3⟩ := Blk.setCellsS r (o + 1) (h.set_ o v) (by simp; omega)
    refine ⟨ys, h1, by rw [h2]; simp, fun i => ?_⟩
    rw [h3 i]
    by_cases hi : i = o
    · subst hi
      rw [if_neg (by omega), if_pos (by omega), Nat.sub_self, Array.getElem?_setIfInBounds, if_pos rfl, if_pos (by omega)]
      rfl
    · by_cases hr : o + 1 ≤ i ∧ i < o + 1 + r.length
      · rw [if_pos hr, if_pos (by omega)]
        obtain ⟨k, hk⟩ : ∃ k, i - o = k + 1 := ⟨i - o - 1, by omega⟩
        rw [hk, show i - (o + 1) = k by omega]
        rfl
      · rw [if_neg hr, if_neg (by omega), Array.getElem?_setIfInBounds, if_neg (fun e => hi e.symm)]
theorem Blk.setAllS {w : World} {g : Nat} {t : TypeId} {zs : Array Value} (h : Blk w g t zs) (cells : Array Value) (hs : zs.size = cells.size) : Blk (w.setCells g 0 cells.toList) g t cells := by
  obtain ⟨ys, h1, h2, h3⟩ := Blk.setCellsS cells.toList 0 h (by simp; omega)
  have : ys = cells := by
    apply Array.ext_getElem?
    intro i
    rw [h3 i]
    by_cases hi : i < cells.size
    · rw [if_pos (by simp; omega)]; simp
    · rw [if_neg (by simp; omega), Array.getElem?_eq_none (by omega), Array.getElem?_eq_none (by omega)]
  rw [this] at h1
  exact h1
/-- A struct's store into a block of its own, as a step of a region that draws its order. -/
theorem step_store_box {ops : Array Oper} {o : Oper} {a : Act} {K : Act → World → Prop} {Q : Exit → Act → World → Prop} {E : Prop} {w : World} (x y : Operand) (ty : TypeId) (ho : o.op = .store ty x y) (hw : Region.wanted o (yielded ops a.tmps) = true)
    (g : Nat) (t : TypeId) (zs cells : Array Value) (hx : a.eval x = .pointer (some ⟨g, 0, none⟩)) (hy : a.eval y = .agg cells)
    (hz : Blk w g t zs) (hs : zs.size = cells.size) (hi : (Tryd.prog.info? ty).map (·.size) = some cells.size) (h1 : cells.all (·.oneCell') = true)
    (h : ∀ w', Blk w' g t cells → But g w w' → K (a.put o.dst undef) w') : if Region.wanted o (yielded ops a.tmps) = true then Oper.wp Tryd.prog o a w K Q else E := by
  rw [if_pos hw]
  refine wp_store_mid ty x y ho g 0 cells hx hy (fun j hj => ?_) hi h1 (h _ (hz.setAllS cells hs) (But.setCellsS _ _ (But.refl _ _)))
  rw [Nat.zero_add, hz.cell, hz.frozen]
  exact ⟨by rw [Array.getElem?_eq_getElem (by omega)]; rfl, rfl⟩
/-- A struct's store into a box that a drawn region made (for RegB's wp_region_boxes). -/
theorem store_box {o : Oper} {a : Act} {Q : Exit → Act → World → Prop} {w : World} (x y : Operand) (ty : TypeId) (ho : o.op = .store ty x y) (hd : o.dst = none)
    (g : Nat) (t : TypeId) (zs0 zs cells : Array Value) (C : Array Value → Prop) (hx : a.eval x = .pointer (some ⟨g, 0, none⟩)) (hy : a.eval y = .agg cells)
    (hz : Blk w g t zs) (hs0 : zs.size = zs0.size) (hs : zs.size = cells.size) (hi : (Tryd.prog.info? ty).map (·.size) = some cells.size) (h1 : cells.all (·.oneCell') = true) (hC : C cells) :
    o.wp Tryd.prog a w (fun a' w' => a' = a ∧ w.grownBy w' (some g) ∧ ∃ cells' : Array Value, Blk w' g t cells' ∧ cells'.size = zs0.size ∧ C cells') Q := by
  refine wp_store_mid ty x y ho g 0 cells hx hy (fun j hj => ?_) hi h1 ⟨?_, But.setCellsS _ _ (But.refl _ _), cells, hz.setAllS cells hs, hs.symm.trans hs0, hC⟩
  · rw [Nat.zero_add, hz.cell, hz.frozen]
    exact ⟨by rw [Array.getElem?_eq_getElem (by omega)]; rfl, rfl⟩
  · rw [hd]; rfl
theorem ite_guard {c : Prop} [Decidable c] {a b : Prop} (h : if c then a else b) : if c then a else b := h
theorem carry0 {X w' : World} {g : Nat} {t : TypeId} {cs : Array Value} (h : Blk X g t cs) (hb : Below X.heap.size X w') : Blk w' g t cs := h.below hb h.lt
theorem carry1 {X w' : World} {o : Obj} {g : Nat} {t : TypeId} {cs : Array Value} (h : Blk X g t cs) (hb : Below (X.alloc o).heap.size (X.alloc o) w') : Blk w' g t cs := (h.alloc o).below hb (h.alloc o).lt
theorem carry2 {X w' : World} {o o2 : Obj} {g : Nat} {t : TypeId} {cs : Array Value} (h : Blk X g t cs) (hb : Below ((X.alloc o).alloc o2).heap.size ((X.alloc o).alloc o2) w') : Blk w' g t cs := ((h.alloc o).alloc o2).below hb ((h.alloc o).alloc o2).lt
theorem below_a1 {X w' : World} {o : Obj} (hb : Below (X.alloc o).heap.size (X.alloc o) w') : Below X.heap.size X w' := ((Below.refl _ _).alloc (Nat.le_refl _) _).trans (hb.mono (by simp))
theorem below_a2 {X w' : World} {o o2 : Obj} (hb : Below ((X.alloc o).alloc o2).heap.size ((X.alloc o).alloc o2) w') : Below X.heap.size X w' := below_a1 (below_a1 hb)

end Go.Proofs.YtlfldnogjndglaaDoor
