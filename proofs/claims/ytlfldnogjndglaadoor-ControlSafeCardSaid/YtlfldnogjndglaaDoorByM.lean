/-
  Bytes made out of a string, and what is appended to them.
-/
import Derived.Test.YtlfldnogjndglaaDoorBut
import Derived.ArgAppend
import Derived.Deep.MidRow
namespace Go.Proofs.YtlfldnogjndglaaDoor
open Go.RowKit Go.Lib
set_option linter.unusedVariables false

/-- v is a slice of bytes from block B on, holds bs, and may be appended to. -/
def OwnM (B : Nat) (w : World) (v : Value) (bs : List UInt8) : Prop :=
  ∃ g cap, v = .slice (some ⟨g, 0, none⟩) bs.length cap ∧ B ≤ g ∧ g < w.heap.size ∧ bs.length ≤ cap ∧ cap ≤ 9223372036854775807 ∧
    (∀ j (h : j < bs.length), w.cell? ⟨g, j, none⟩ = some (.int .u8 (bs[j].toNat : Int))) ∧
    ∀ j, j < cap → (w.cell? ⟨g, j, none⟩).isSome = true ∧ w.frozen? ⟨g, j, none⟩ = false
theorem OwnM.byt {B : Nat} {w : World} {v : Value} {bs : List UInt8} (h : OwnM B w v bs) (h0 : bs.length ≤ 140737488355328) : Byt w w.heap.size v bs := by
  obtain ⟨g, cap, rfl, _, h2, h3, h4, hc, _⟩ := h
  exact ⟨h0, _, cap, rfl, h3, h4, fun j hj => ⟨g, 0, rfl, h2, by simpa using hc j hj⟩⟩
theorem OwnM.keep {B : Nat} {w w' : World} {v : Value} {bs : List UInt8} (h : OwnM B w v bs) (hs : w.heap.size ≤ w'.heap.size) (hk : ∀ g, g < w.heap.size → w'.heap[g]? = w.heap[g]?) : OwnM B w' v bs := by
  obtain ⟨g, cap, rfl, h1, h2, h3, h4, hc, hf⟩ := h
  refine ⟨g, cap, rfl, h1, by omega, h3, h4, fun j hj => ?_, fun j hj => ?_⟩
  · rw [World.cell?_of_block (a := ⟨g, j, none⟩) (hk g h2)]; exact hc j hj
  · rw [World.cell?_of_block (a := ⟨g, j, none⟩) (hk g h2), World.frozen?_of_block (a := ⟨g, j, none⟩) (hk g h2)]; exact hf j hj
theorem OwnM.below {B C : Nat} {w w' : World} {v : Value} {bs : List UInt8} (h : OwnM B w v bs) (hb : Below C w w') (hC : w.heap.size ≤ C) : OwnM B w' v bs := h.keep hb.size (fun g hg => hb.block g (by omega))
theorem OwnM.alloc {B : Nat} {w : World} {v : Value} {bs : List UInt8} (h : OwnM B w v bs) (o : Obj) : OwnM B (w.alloc o) v bs := h.keep (by simp) (fun g hg => Below.heap_alloc w o g hg)
theorem OwnM.of_own {B : Nat} {w : World} {v : Value} {bs : List UInt8} (h : OwnB B w v bs) (hn : bs ≠ []) : OwnM B w v bs := by
  have hlen := h
  rcases h.2 with ⟨_, hx⟩ | ⟨g, cap, cur, rfl, hbg, hg, hnc, hcm, hcs, _⟩
  · exact absurd (List.eq_nil_of_length_eq_zero hx) hn
  · have hX : Blk w g 5 cur := hg
    rcases hlen.form with ⟨h1, _⟩ | ⟨g', cap', he, _, h2, h3, h4, hc⟩
    · cases h1
    · simp only [Value.slice.injEq, Option.some.injEq, Addr.mk.injEq, true_and, and_true] at he
      obtain ⟨rfl, rfl⟩ := he
      refine ⟨g, cap, rfl, hbg, h2, h3, by unfold maxLen at h4; omega, hc, fun j hj => ⟨?_, hX.frozen j⟩⟩
      rw [hX.cell, Array.getElem?_eq_getElem (by omega)]
      rfl
/-- '[]byte(s)' laid. -/
theorem OwnM.string (w : World) (s : ByteArray) (hs : s.size ≤ 1000000) (cap : Nat) (hc : s.size ≤ cap) (hm : cap ≤ 9223372036854775807) (d : World) (hd : d.heap = w.heap) :
    OwnM w.heap.size (d.alloc (.cells (bytesRow s cap) 5 ((bytesRow s cap).size, (bytesRow s cap).size + 1))) (.slice (some ⟨w.heap.size, 0, none⟩) s.size cap) s.data.toList := by
  have hz : d.heap.size = w.heap.size := by rw [hd]
  have hbl : (d.alloc (.cells (bytesRow s cap) 5 ((bytesRow s cap).size, (bytesRow s cap).size + 1))).heap[w.heap.size]? = some (.cells (bytesRow s cap) 5 ((bytesRow s cap).size, (bytesRow s cap).size + 1)) := by
    rw [← hz]; exact heap_alloc_new d _
  have hsz : (bytesRow s cap).size = cap := by
    have : s.data.size = s.size := rfl
    simp [bytesRow, this]; omega
  have hl : s.data.toList.length = s.size := by rw [Array.length_toList]; rfl
  refine ⟨w.heap.size, cap, by rw [hl], Nat.le_refl _, by simp [hz], by omega, hm, fun j hj => ?_, fun j hj => ⟨?_, ?_⟩⟩
  · rw [cell_of_row _ _ _ _ _ _ hbl]
    have hj' : j < s.data.size := by simpa using hj
    unfold bytesRow
    rw [Array.getElem?_append_left (by simpa using hj')]
    simp [Array.getElem?_eq_getElem hj']
  · rw [cell_of_row _ _ _ _ _ _ hbl, Array.getElem?_eq_getElem (by omega)]
    rfl
  · simp [World.frozen?, hbl]; omega

/-- append to bytes that may be appended to. -/
theorem wpList_appM {ops : Array Oper} {rest : List Oper} {o : Oper} {a : Act} {Q : Exit → Act → World → Prop} {w : World} (hgd : o.guard = none) (s x : Operand)
    (ho : o.op = .call { callee := .builtin .append, args := #[s, x], argTypes := #[61, 61] })
    (B : Nat) (v : Value) (bs : List UInt8) (hs : a.eval s = v) (hown : OwnM B w v bs) (hB : B ≤ w.heap.size)
    (u : Value) (ns : List UInt8) (C : Nat) (hx : a.eval x = u) (hu : Byt w C u ns)
    (h63 : bs.length + ns.length ≤ 140737488355328)
    (h : ∀ v' w', OwnM B w' v' (bs ++ ns) → Below B w w' → wpList Tryd.prog ops Q rest (a.put o.dst v') w') : wpList Tryd.prog ops Q (o :: rest) a w := by
  obtain ⟨i0, hi, hz0, hz1, hz2⟩ := info_parts u8_info
  obtain ⟨A, c, rfl, _, _⟩ := hu.form
  obtain ⟨_, _, hc⟩ := hu.at_
  have hown0 := hown
  obtain ⟨g, cap, rfl, hbg, hg, hnc, hcm, hcell, hfr⟩ := hown
  have key : ∃ v' w', (Builtin.append_ #[61, 61] o.type #[.slice (some ⟨g, 0, none⟩) bs.length cap, .slice A ns.length c]).run Tryd.prog w = .ok v' w' ∧ OwnM B w' v' (bs ++ ns) ∧ Below B w w' := by
    rcases A with _ | ad
    · have hn : ns = [] := by
        rcases ns with _ | ⟨b, ns⟩
        · rfl
        · obtain ⟨_, _, e, _⟩ := hc 0 (by simp)
          cases e
      subst hn
      refine ⟨_, w, by simp [Builtin.append_, run_underlying Tryd.underlying61, sizeOf, typeInfo, hi, Builtin.lenOf, Builtin.firstCells, hnc, storeCells]; rfl, by simpa using hown0, Below.refl _ _⟩
    · have hnews : ∀ j z, (byteCells ns)[j]? = some z → w.cell? (ad.add j) = some z := by
        intro j z hj
        have hj' : j < ns.length := by
          have := (List.getElem?_eq_some_iff.1 hj).1
          simpa [byteCells] using this
        obtain ⟨b, off, e, _, hcl⟩ := hc j hj'
        simp only [Option.some.injEq] at e
        subst e
        simp [byteCells, List.getElem?_eq_getElem hj'] at hj
        subst hj
        rw [← hcl]
        by_cases hz : j = 0 <;> simp [Addr.add, hz]
      have hone : ∀ z ∈ byteCells ns, z.oneCell' = true := by intro z hz; simp only [byteCells, List.mem_map] at hz; obtain ⟨b, _, rfl⟩ := hz; rfl
      have hnl : (byteCells ns).length = ns.length := by simp [byteCells]
      by_cases hroom : bs.length + ns.length ≤ cap
      · have hrun := run_append_room_cells (P := Tryd.prog) w 61 o.type 5 i0 Tryd.underlying61 hi g 0 bs.length cap ad ns.length c (byteCells ns) (by rw [hz1]; simp [byteCells]) hnews hone hroom
          (fun j hj => by rw [hz1]; have := (hfr (bs.length + j) (by omega)).1; simpa using this) (fun j hj => by rw [hz1]; have := (hfr (bs.length + j) (by omega)).2; simpa using this)
        rw [hz1] at hrun
        simp only [Nat.mul_one, Nat.zero_add] at hrun
        have hin := World.cell?_setCells_in g (byteCells ns) bs.length w (fun j hj => (hfr (bs.length + j) (by omega)).1)
        have hbel : Below B w (w.setCells g bs.length (byteCells ns)) := by
          have : ∀ (vs : List Value) (o : Nat) (w : World), Below B w (w.setCells g o vs) := by
            intro vs
            induction vs with
            | nil => intro o w; exact Below.refl _ _
            | cons z vs ih => intro o w; exact ((Below.refl B w).setCell (p := ⟨g, o, none⟩) hbg z).trans (ih _ _)
          exact this _ _ _
        refine ⟨_, _, hrun, ⟨g, cap, by rw [List.length_append], hbg, Nat.lt_of_lt_of_le hg hbel.size, by simpa using hroom, hcm, fun j hj => ?_, fun j hj => ⟨?_, ?_⟩⟩, hbel⟩
        · rcases Nat.lt_or_ge j bs.length with h1 | h1
          · rw [World.cell?_setCells_out g _ _ _ ⟨g, j, none⟩ (fun _ _ => .inl h1), hcell j h1, List.getElem_append_left h1]
          · have hj2 : j - bs.length < (byteCells ns).length := by simp at hj; omega
            have h2 := hin (j - bs.length) hj2
            rw [show bs.length + (j - bs.length) = j by omega] at h2
            rw [h2, List.getElem_append_right h1]
            simp [byteCells]
        · exact World.isSome_setCells g _ _ _ _ (hfr j hj).1
        · rw [World.frozen?_setCells]; exact (hfr j hj).2
      · obtain ⟨v', w', hrun, ho, hgw⟩ := run_append_arg_grows (P := Tryd.prog) w 61 o.type 5 i0 (.int .u8 0) 1 1 Tryd.underlying61 hi hz0 hz1 hz2 rfl (by decide) ⟨g, 0, none⟩ bs.length cap (byteCells bs) (by simp [byteCells])
          (fun j z hj => by
            have hj' : j < bs.length := by
              have := (List.getElem?_eq_some_iff.1 hj).1
              simpa [byteCells] using this
            simp [byteCells, List.getElem?_eq_getElem hj'] at hj
            subst hj
            rw [← hcell j hj']
            by_cases hz : j = 0 <;> simp [Addr.add, hz])
          ad ns.length c (byteCells ns) (by simp [byteCells]) hnews (by omega) (by simp only [maxLen]; omega) (by omega)
        have hbb : Below w.heap.size w w' := ⟨hgw.os, hgw.tape, hgw.output, hgw.size, fun k hk => hgw.block k hk (by simp)⟩
        have ho' : OwnB w.heap.size w' v' (bs ++ ns) := by unfold OwnB; simpa [byteCells] using ho
        refine ⟨v', w', hrun, ?_, hbb.mono hB⟩
        obtain ⟨g', cap', h1, h2, h3⟩ := OwnM.of_own ho' (fun e => by simp at e; obtain ⟨rfl, rfl⟩ := e; simp at hroom)
        exact ⟨g', cap', h1, by omega, h3⟩
  obtain ⟨v', w', hrun, h1, h2⟩ := key
  refine wpList_plain hgd fun K hK => ?_
  unfold Oper.wp execOp
  simp only [ho, resolve, invoke, builtin, Sem.run_bind, Sem.run_pure, Result.andThen_ok, List.map_toArray, List.map_cons, List.map_nil, hs, hx, hrun]
  exact hK _ _ (h v' w' h1 h2)
end Go.Proofs.YtlfldnogjndglaaDoor
