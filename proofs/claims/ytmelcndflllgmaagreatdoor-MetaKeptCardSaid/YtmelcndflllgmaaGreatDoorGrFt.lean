/-
  Merged: FrwC, FrwD.
-/
import Derived.Test.YtmelcndflllgmaaGreatDoorGrFs
import Derived.Test.YtmelcndflllgmaaGreatDoorGrW
import Derived.Test.YtmelcndflllgmaaGreatDoorGrCt
import Derived.Test.YtmelcndflllgmaaGreatDoorGrTp
import Derived.Test.YtmelcndflllgmaaGreatDoorGrDi
import Derived.Test.YtmelcndflllgmaaGreatDoorGrS
import Derived.Test.YtmelcndflllgmaaGreatDoorGrCe
import Derived.Deep.CutBlock
import Derived.Test.YtmelcndflllgmaaGreatDoorGrF
import Derived.Deep.DeepCutAuto
namespace Go.Proofs.YtmelcndflllgmaaGreatDoor
open Go.RowKit
set_option linter.unusedVariables false
set_option linter.unusedSimpArgs false

theorem ne_start {α : Type} {L : Lay α} {B : Nat} {w : World} {v u : Value} {l : List α} (h : OwnL L B w v l) (hu : ∀ k, u.ownBlock = some k → k < B) : Value.ownBlock v = none ∨ Value.ownBlock v ≠ Value.ownBlock u := by
  rcases e : Value.ownBlock v with _ | k
  · exact .inl rfl
  · right
    intro e2
    have := (h.lt k e).1
    have := hu k e2.symm
    omega
theorem ne_grown {α : Type} {L : Lay α} {B : Nat} {w : World} {v u u' : Value} {l : List α} (h : OwnL L B w v l) (hn : Value.ownBlock v = none ∨ Value.ownBlock v ≠ Value.ownBlock u) (hu : u'.ownBlock = u.ownBlock ∨ u'.ownBlock = some w.heap.size) : Value.ownBlock v = none ∨ Value.ownBlock v ≠ Value.ownBlock u' := by
  rcases hu with hu | hu
  · rw [hu]; exact hn
  · rcases e : Value.ownBlock v with _ | k
    · exact .inl rfl
    · right
      rw [hu]
      intro e2
      have := (h.lt k e).2
      simp at e2
      omega
theorem step_appL3 {α : Type} (L : Lay α) {ops : Array Oper} {o : Oper} {a : Act} {K : Act → World → Prop} {Q : Exit → Act → World → Prop} {E : Prop} {w : World} (w0 : World) (hw : Region.wanted o (yielded ops a.tmps) = true) (s x : Operand) (t1 t2 : TypeId)
    (ho : o.op = .call { callee := .builtin .append, args := #[s, x], argTypes := #[t1, t2] }) (ht1 : t1 = L.t) (ht2 : t2 = L.t)
    (B : Nat) (v : Value) (l : List α) (hs : a.eval s = v) (hown : OwnL L B w v l) (hb0 : Below B w0 w) (hB : B ≤ w.heap.size)
    (u : Value) (ns : List α) (C : Nat) (hx : a.eval x = u) (hu : RdL L w C u ns)
    (hL : L.bytes ≤ 1024) (h63 : l.length + ns.length ≤ 1000000000)
    (h : ∀ v' w', OwnL L B w' v' (l ++ ns) → Below B w0 w' → w.grownBy w' v.ownBlock → (v'.ownBlock = v.ownBlock ∨ v'.ownBlock = some w.heap.size) → K (a.put o.dst v') w') :
    if Region.wanted o (yielded ops a.tmps) = true then Oper.wp Tryz.prog o a w K Q else E := by
  rw [if_pos hw]
  subst ht1 ht2
  obtain ⟨v', w', hrun, h1, h2, h5⟩ := run_appL o.type B v l hown hB u ns C hu hL h63
  unfold Oper.wp execOp
  simp only [ho, resolve, invoke, builtin, Sem.run_bind, Sem.run_pure, Result.andThen_ok, List.map_toArray, List.map_cons, List.map_nil, hs, hx, hrun]
  have hr : ∀ k, v.ownBlock = some k → B ≤ k := fun k hk => (hown.lt k hk).1
  exact h v' w' h1 (hb0.grown h2 hB hr) h2 h5
theorem infoM : (Tryz.prog.info? 29).map (·.size) = some 11 := by kernel_rfl
theorem wpList_store_boxB {ops : Array Oper} {rest : List Oper} {op : Oper} {a : Act} {w : World} {Q : Exit → Act → World → Prop} (hgd : op.guard = none) (ty : TypeId) (x y : Operand) (ho : op.op = .store ty x y)
    (g : Nat) (t : TypeId) (zs cells : Array Value) (hx : a.eval x = .pointer (some ⟨g, 0, none⟩)) (hy : a.eval y = .agg cells)
    (hz : Blk w g t zs) (hs : zs.size = cells.size) (hi : (Tryz.prog.info? ty).map (·.size) = some cells.size) (h1 : cells.all (·.oneCell') = true)
    (h : ∀ w', Blk w' g t cells → But g w w' → wpList Tryz.prog ops Q rest (a.put op.dst undef) w') : wpList Tryz.prog ops Q (op :: rest) a w := by
  refine wpList_store_mid hgd ty x y ho g 0 cells hx hy (fun j hj => ?_) hi h1 (h _ (hz.setAllS cells hs) (But.setCellsS _ _ (But.refl _ _)))
  rw [Nat.zero_add, hz.cell, hz.frozen]
  exact ⟨by rw [Array.getElem?_eq_getElem (by omega)]; rfl, rfl⟩
theorem wpList_store_boxC {ops : Array Oper} {rest : List Oper} {op : Oper} {a : Act} {w : World} {Q : Exit → Act → World → Prop} (hgd : op.guard = none) (hdst : op.dst = none) (ty : TypeId) (x y : Operand) (ho : op.op = .store ty x y)
    (g : Nat) (t : TypeId) (zs cells : Array Value) (hx : a.eval x = .pointer (some ⟨g, 0, none⟩)) (hy : a.eval y = .agg cells)
    (hz : Blk w g t zs) (hs : zs.size = cells.size) (hi : (Tryz.prog.info? ty).map (·.size) = some cells.size) (h1 : cells.all (·.oneCell') = true)
    (h : ∀ w', Blk w' g t cells → But g w w' → wpList Tryz.prog ops Q rest a w') : wpList Tryz.prog ops Q (op :: rest) a w := by
  refine wpList_store_boxB hgd ty x y ho g t zs cells hx hy hz hs hi h1 (fun w' hz' hb => ?_)
  rw [hdst]
  exact h w' hz' hb
theorem own_setz {α : Type} {L : Lay α} {B k i : Nat} {w : World} {v : Value} {l : List α} (h : OwnL L B w v l) (hk : k < B) (u : Value) : OwnL L B (w.setCell ⟨k, i, none⟩ u) v l :=
  h.far (fun e => by have := (h.lt k e).1; omega) u
theorem words_total (vs : List Bs) : (vs.flatMap wordsB).length ≤ (vs.map List.length).sum + vs.length := by
  induction vs with
  | nil => simp
  | cons x r ih =>
    have := (words_len x []).1
    rw [List.flatMap_cons, List.length_append, List.map_cons, List.sum_cons, List.length_cons]
    unfold wordsB at ih ⊢
    omega
theorem words_take {vs : List Bs} {k : Nat} (h : k < vs.length) : (vs.take (k + 1)).flatMap wordsB = (vs.take k).flatMap wordsB ++ wordsB vs[k] := by
  rw [List.take_succ_eq_append_getElem h, List.flatMap_append]; simp
theorem take_sum (vs : List Bs) (k : Nat) : ((vs.take k).map List.length).sum ≤ (vs.map List.length).sum := Lib.lens_take_le vs k
theorem keys_few (l : List FieldL) (k : Nat) (hll : l.length ≤ 1000) (hsum : sumF l ≤ 900000) : (((ofV l nmSk).take k).flatMap wordsB).length ≤ 901000 := by
  have h1 := words_total ((ofV l nmSk).take k)
  have h2 := take_sum (ofV l nmSk) k
  have h3 := sumF_of l nmSk
  have h4 := ofV_len l nmSk
  rw [List.length_take] at h1
  omega
theorem parse_len {x : Bs} {t : TagL} (h : parseB x = some t) : t.1.length ≤ 100 := by
  have key : ∀ (u : Bs) (b w : Bool), (if b = true then none else if tagOkL u = true then some (u, w) else none) = some t → t.1.length ≤ 100 := fun u b w h => by
    split at h
    · cases h
    · split at h
      · rename_i ho
        cases h
        unfold tagOkL at ho
        simp only [Bool.and_eq_true, decide_eq_true_eq] at ho
        exact ho.1.2
      · cases h
  exact key _ _ _ h
theorem tag_small {l : List FieldL} {t : TagL} (h : tagG l = some t) : t.1.length ≤ 9223372036854775807 := by
  unfold tagG at h
  cases hg : getF l nmEt with
  | none => rw [hg] at h; cases h; simp
  | some x =>
    rw [hg] at h
    have := parse_len h
    omega
theorem rd_strs {w : World} {B : Nat} {v : Value} {ks : List Bs} (h : RdL LS w B v ks) (hz : ∀ k ∈ ks, k.length ≤ 9223372036854775807) : RdStrs w B v (ks.map fun x => (⟨x.toArray⟩ : ByteArray)) := by
  obtain ⟨h0, A, c, rfl, h1, h2, hc⟩ := h
  refine ⟨by rw [List.length_map]; exact h0, fun k hk => ?_, A, c, by rw [List.length_map], by rw [List.length_map]; exact h1, h2, fun i hi => ?_⟩
  · obtain ⟨x, hx, rfl⟩ := List.mem_map.1 hk
    have := hz x hx
    rw [← lsize]; exact this
  · rw [List.length_map] at hi
    obtain ⟨b, off, e, hb, hcell⟩ := hc i hi
    refine ⟨b, off, e, hb, ?_⟩
    rw [List.getElem_map]
    simpa [LS] using hcell 0 _ rfl
theorem keys_small {l : List FieldL} {x : Bs} (hz2 : ∀ f ∈ l, f.2.length ≤ 1000000) (h : x ∈ keysG l) : x.length ≤ 1000000 := by
  unfold keysG at h
  obtain ⟨v, hv, hx⟩ := List.mem_flatMap.1 h
  obtain ⟨f, hf, rfl⟩ := ofV_mem hv
  have := (words_len f.2 []).2 x hx
  have := hz2 f hf
  simp at *
  omega

set_option maxRecDepth 100000 in
set_option maxHeartbeats 32000000 in
theorem cfrom_any (v : Value) (l : List FieldL) (w : World) (hM : MaxI w.heap.size w) (hr : RdL LF w w.heap.size v l) (hz : ∀ f ∈ l, f.1.length ≤ 1000000) (hz2 : ∀ f ∈ l, f.2.length ≤ 1000000) (hll0 : l.length ≤ 1000) (hsum : sumF l ≤ 900000) : Calls Tryz.prog 8 #[v] w (FromGot l w) := by
  have hll : l.length ≤ 1000000 := by omega
  have HR := hide hr
  have HM := hide hM
  clear hr hM
  go_enter Tryz.func8, Tryz.ntmps8
  go_upto_region 1 with fail
  obtain ⟨w1, hw1⟩ : ∃ w1 : World, w1 = (w).alloc (.cells #[.string ⟨#[]⟩, .bool false, .int .i64 0, .int .i64 0, .int .i64 0, .int .i64 0, .int .i64 0, .int .i64 0, .slice none 0 0, .string ⟨#[]⟩, .bool false] 29) := ⟨_, rfl⟩
  rw [← hw1]
  have hB1 : Below w.heap.size w w1 := by rw [hw1]; exact ((Below.refl _ _).alloc (Nat.le_refl _) _)
  have Z : Blk w1 (w.heap.size) 29 #[.string ⟨#[]⟩, .bool false, .int .i64 0, .int .i64 0, .int .i64 0, .int .i64 0, .int .i64 0, .int .i64 0, .slice none 0 0, .string ⟨#[]⟩, .bool false] := by rw [hw1]; exact (Blk.new _ _ _)
  clear hw1
  go_wp2_with fail
  refine (fof_any v l ⟨#[67, 97, 99, 104, 101, 45, 67, 111, 110, 116, 114, 111, 108]⟩ w1 ((HR.out.below hB1).mono hB1.size) hz (by decide) hll).mono ?_
  rintro e w2 ⟨v2, rfl, O2, hb2⟩
  have hB2 := hB1.trans (hb2.mono hB1.size)
  replace Z := Z.below hb2 Z.lt
  have hvz : ∀ x ∈ ofV l (⟨#[67, 97, 99, 104, 101, 45, 67, 111, 110, 116, 114, 111, 108]⟩ : ByteArray).data.toList, x.length ≤ 1000000 := fun x hx => by obtain ⟨f9, hf9, e9⟩ := ofV_mem hx; rw [← e9]; exact hz2 f9 hf9
  have R2 : RdL LS w2 w2.heap.size v2 (ofV l nmCc) := O2.rd
  clear O2 hb2
  obtain ⟨A2, k2, hv2, _, _⟩ := R2.form
  subst hv2
  go_wp2_with fail
  refine (cparse_any _ _ w2 ((HM.out.below hB2).mono hB2.size) R2 hvz).mono ?_
  rintro e w3 ⟨rfl, hb3⟩
  have hB3 := hB2.trans (hb3.mono hB2.size)
  replace Z := Z.below hb3 Z.lt
  have ZLT := Z.lt
  obtain ⟨r, hr⟩ : ∃ r, r = parsesV (ofV l nmCc) := ⟨_, rfl⟩
  rw [← hr]
  have HRU := hide (show ruleG l = r from hr.symm)
  clear hr hb3 R2 hvz
  obtain ⟨mx, sh, wh0, er0, ns, nc, pv⟩ := r
  unfold RuleM.cells
  obtain ⟨fr, hfr⟩ : ∃ x, freshV mx sh nc = x := ⟨_, rfl⟩
  obtain ⟨wh, hwh⟩ : ∃ x, whileV wh0 nc = x := ⟨_, rfl⟩
  obtain ⟨er, her⟩ : ∃ x, whileV er0 nc = x := ⟨_, rfl⟩
  obtain ⟨kp, hkp⟩ : ∃ x, keepV ns pv = x := ⟨_, rfl⟩
  have HFR := hide hfr
  have HWH := hide hwh
  have HER := hide her
  have HKP := hide hkp
  go_wp2_with fail
  refine (capply_is ⟨#[]⟩ false 0 0 0 0 0 0 (.slice none 0 0) ⟨#[]⟩ false [] mx sh wh0 er0 ns nc pv w3 (RdL.nil _ _ _ _ (by decide)) (by decide) hfr hwh her hkp).mono ?_
  rintro e w4 ⟨kv2, rfl, O, hb4⟩
  have hB4 := hB3.trans (hb4.mono hB3.size)
  replace Z := Z.below hb4 Z.lt
  have hsz4 := hb4.size
  clear hb4 hfr hwh her hkp
  obtain ⟨B1, hB1e⟩ : ∃ n, n = w3.heap.size := ⟨_, rfl⟩
  rw [← hB1e] at O
  have hB1w : w.heap.size < B1 := by rw [hB1e]; have := ZLT; omega
  obtain ⟨AK, ck, hkv, _, _⟩ := O.rd.form
  simp only [List.length_nil] at hkv
  subst hkv
  go_upto_region 2 with fail
  obtain ⟨w5, hw5⟩ : ∃ W : World, W = w4.alloc (.cells #[.string ⟨#[]⟩, .bool false, .int .i64 (0), .int .i64 (0), .int .i64 (0), .int .i64 fr, .int .i64 wh, .int .i64 er, .slice AK 0 ck, .string ⟨#[]⟩, .bool kp] 29) := ⟨_, rfl⟩
  rw [← hw5]
  obtain ⟨g, hg⟩ : ∃ n, n = w4.heap.size := ⟨_, rfl⟩
  have hgw : w.heap.size < g := by rw [hg]; exact Z.lt
  have hB1g : B1 ≤ g := by rw [hg, hB1e]; exact hsz4
  have T : Blk w5 g 29 #[.string ⟨#[]⟩, .bool false, .int .i64 (0), .int .i64 (0), .int .i64 (0), .int .i64 fr, .int .i64 wh, .int .i64 er, .slice AK 0 ck, .string ⟨#[]⟩, .bool kp] := by rw [hw5, hg]; exact Blk.new _ _ _
  replace Z := Z.alloc (.cells #[.string ⟨#[]⟩, .bool false, .int .i64 (0), .int .i64 (0), .int .i64 (0), .int .i64 fr, .int .i64 wh, .int .i64 er, .slice AK 0 ck, .string ⟨#[]⟩, .bool kp] 29)
  replace O := O.alloc (.cells #[.string ⟨#[]⟩, .bool false, .int .i64 (0), .int .i64 (0), .int .i64 (0), .int .i64 fr, .int .i64 wh, .int .i64 er, .slice AK 0 ck, .string ⟨#[]⟩, .bool kp] 29)
  have hB5 : Below w.heap.size w w5 := by rw [hw5]; exact hB4.alloc hB4.size _
  rw [← hw5] at Z O
  rw [← hg]
  clear hw5 hg hsz4 hB1e hB4 hB3 hB2 hB1
  have cT := T.cell
  have fT := T.frozen
  go_upto_region 3 with fail
  obtain ⟨w6, hw6⟩ : ∃ W : World, W = ((w5).setCell ⟨g, 2, none⟩ (.int .i64 (-1))).setCell ⟨g, 3, none⟩ (.int .i64 (-1)) := ⟨_, rfl⟩
  rw [← hw6]
  have hNB : Value.ownBlock (.slice AK 0 ck) ≠ some g := O.not_blk T (by decide)
  have hB6 : Below w.heap.size w w6 := by rw [hw6]; exact (below_set (below_set hB5 (by omega) _) (by omega) _)
  have T' : Blk w6 g 29 #[.string ⟨#[]⟩, .bool false, .int .i64 (-1), .int .i64 (-1), .int .i64 (0), .int .i64 fr, .int .i64 wh, .int .i64 er, .slice AK 0 ck, .string ⟨#[]⟩, .bool kp] := by rw [hw6]; simpa using ((T.set_ 2 (.int .i64 (-1))).set_ 3 (.int .i64 (-1)))
  have Z' : Blk w6 w.heap.size 29 #[.string ⟨#[]⟩, .bool false, .int .i64 0, .int .i64 0, .int .i64 0, .int .i64 0, .int .i64 0, .int .i64 0, .slice none 0 0, .string ⟨#[]⟩, .bool false] := by rw [hw6]; exact ((Z.far (show w.heap.size ≠ g by omega) _).far (show w.heap.size ≠ g by omega) _)
  have O' : OwnL LS B1 w6 (.slice AK 0 ck) ([] : List Bs) := by rw [hw6]; exact ((O.far hNB _).far hNB _)
  replace T := T'
  replace Z := Z'
  replace O := O'
  clear hw6 cT fT T' Z' O' hNB
  have cT := T.cell
  have fT := T.frozen
  go_wp2_with fail
  refine (fget_any v l ⟨#[69, 84, 97, 103]⟩ w6 ((HR.out.below hB6).mono hB6.size) hz (by decide) hll).mono ?_
  rintro e w7 ⟨rfl, hb7⟩
  have hB7 := hB6.trans (hb7.mono hB6.size)
  replace T := T.below hb7 T.lt
  replace Z := Z.below hb7 Z.lt
  replace O := O.below hb7 (Nat.le_refl _)
  clear cT fT hb7
  have cT := T.cell
  have fT := T.frozen
  have hgf : (ofV l (⟨#[69, 84, 97, 103]⟩ : ByteArray).data.toList).head? = getF l nmEt := rfl
  rw [hgf]
  clear hgf
  obtain ⟨ge, hge⟩ : ∃ r, r = getF l nmEt := ⟨_, rfl⟩
  rw [← hge]
  have Hge := hide hge
  clear hge
  obtain ⟨sge, hsge⟩ : ∃ s : ByteArray, s = ⟨(ge.getD []).toArray⟩ := ⟨_, rfl⟩
  rw [← hsge]
  have Hsge := hide hsge
  clear hsge
  go_upto_if 28 with fail
  go_cut [7] (fun s7 wx => ∃ t : TagL, tagG l = some t ∧ Blk wx g 29 #[.string ⟨t.1.toArray⟩, .bool t.2, .int .i64 (-1), .int .i64 (-1), .int .i64 (0), .int .i64 fr, .int .i64 wh, .int .i64 er, .slice AK 0 ck, .string ⟨#[]⟩, .bool kp] ∧ OwnL LS B1 wx (.slice AK 0 ck) ([] : List Bs) ∧ Blk wx w.heap.size 29 #[.string ⟨#[]⟩, .bool false, .int .i64 0, .int .i64 0, .int .i64 0, .int .i64 0, .int .i64 0, .int .i64 0, .slice none 0 0, .string ⟨#[]⟩, .bool false] ∧ Below w.heap.size w wx)
  case first =>
    cases ge with
    | none =>
      simp only [Option.isSome_none]
      go_wp2_with fail
      go_meet
      exact ⟨([], false), (show tagG l = some ([], false) by unfold tagG; rw [← Hge.out]), T, O, Z, hB7⟩
    | some x =>
      simp only [Option.isSome_some]
      have hsx : sge.data.toList = x := by rw [Hsge.out]; rfl
      clear Hsge
      have hsz : sge.size ≤ 1000000 := by
        obtain ⟨f9, hf9, e9⟩ := ofV_mem (List.mem_of_mem_head? Hge.out.symm)
        rw [← lsize, hsx, ← e9]; exact hz2 f9 hf9
      go_wp2_with fail
      refine (parse_any sge w7 (by omega)).mono ?_
      rintro e w8 ⟨rfl, hb8⟩
      have hB8 := hB7.trans (hb8.mono hB7.size)
      replace T := T.below hb8 T.lt
      replace Z := Z.below hb8 Z.lt
      replace O := O.below hb8 (Nat.le_refl _)
      clear cT fT hb8
      have cT := T.cell
      have fT := T.frozen
      cases hp : parseB sge.data.toList with
      | none =>
        have HP := hide (show tagG l = none by unfold tagG; rw [← Hge.out, ← hsx]; exact hp)
        clear hp
        simp only [parseV]
        go_upto_region 8 with fail
        obtain ⟨w9, hw9⟩ : ∃ W : World, W = ((w8).setCell ⟨g, 0, none⟩ (.string ⟨#[]⟩)).setCell ⟨g, 1, none⟩ (.bool false) := ⟨_, rfl⟩
        rw [← hw9]
        have hNB : Value.ownBlock (.slice AK 0 ck) ≠ some g := O.not_blk T (by decide)
        have hB9 : Below w.heap.size w w9 := by rw [hw9]; exact (below_set (below_set hB8 (by omega) _) (by omega) _)
        have T' : Blk w9 g 29 #[.string ⟨#[]⟩, .bool false, .int .i64 (-1), .int .i64 (-1), .int .i64 (0), .int .i64 fr, .int .i64 wh, .int .i64 er, .slice AK 0 ck, .string ⟨#[]⟩, .bool kp] := by rw [hw9]; simpa using ((T.set_ 0 (.string ⟨#[]⟩)).set_ 1 (.bool false))
        have Z' : Blk w9 w.heap.size 29 #[.string ⟨#[]⟩, .bool false, .int .i64 0, .int .i64 0, .int .i64 0, .int .i64 0, .int .i64 0, .int .i64 0, .slice none 0 0, .string ⟨#[]⟩, .bool false] := by rw [hw9]; exact ((Z.far (show w.heap.size ≠ g by omega) _).far (show w.heap.size ≠ g by omega) _)
        have O' : OwnL LS B1 w9 (.slice AK 0 ck) ([] : List Bs) := by rw [hw9]; exact ((O.far hNB _).far hNB _)
        replace T := T'
        replace Z := Z'
        replace O := O'
        clear hw9 cT fT T' Z' O' hNB
        have cT := T.cell
        have fT := T.frozen
        have HI2 := hide infoM
        have HI3 := hide (show (#[.string ⟨#[]⟩, .bool false, .int .i64 0, .int .i64 0, .int .i64 0, .int .i64 0, .int .i64 0, .int .i64 0, .slice none 0 0, .string ⟨#[]⟩, .bool false] : Array Value).all (·.oneCell') = true by simp [Value.oneCell'])
        go_upto_region 9 with fail
        iterate 4 go_step
        refine wpList_store_boxC ?_ ?_ 29 (.tmp 2) (.tmp 37) ?_ w.heap.size 29 #[.string ⟨#[]⟩, .bool false, .int .i64 0, .int .i64 0, .int .i64 0, .int .i64 0, .int .i64 0, .int .i64 0, .slice none 0 0, .string ⟨#[]⟩, .bool false] #[.string ⟨#[]⟩, .bool false, .int .i64 0, .int .i64 0, .int .i64 0, .int .i64 0, .int .i64 0, .int .i64 0, .slice none 0 0, .string ⟨#[]⟩, .bool false] ?_ ?_ Z ?_ ?_ HI3.out ?_
        rfl
        rfl
        rfl
        rfl
        rfl
        rfl
        exact HI2.out
        intro wE ZE hGE
        have cZE := ZE.cell
        repeat go_step
        refine bodyPost_ret (v := .tuple #[.agg #[.string ⟨#[]⟩, .bool false, .int .i64 0, .int .i64 0, .int .i64 0, .int .i64 0, .int .i64 0, .int .i64 0, .slice none 0 0, .string ⟨#[]⟩, .bool false], .int .i64 0, .int .i64 2]) (by simp [results, Tryz.results8, go_sem, cZE]) rfl ⟨?_, .inl ⟨.inl HP.out, rfl⟩⟩
        exact hGE.bel hB9 (Nat.le_refl _) hB9.size
      | some t =>
        have HP := hide (show tagG l = some t by unfold tagG; rw [← Hge.out, ← hsx]; exact hp)
        clear hp
        simp only [parseV]
        obtain ⟨t1, t2⟩ := t
        go_upto_region 8 with fail
        obtain ⟨w9, hw9⟩ : ∃ W : World, W = ((w8).setCell ⟨g, 0, none⟩ (.string ⟨t1.toArray⟩)).setCell ⟨g, 1, none⟩ (.bool t2) := ⟨_, rfl⟩
        rw [← hw9]
        have hNB : Value.ownBlock (.slice AK 0 ck) ≠ some g := O.not_blk T (by decide)
        have hB9 : Below w.heap.size w w9 := by rw [hw9]; exact (below_set (below_set hB8 (by omega) _) (by omega) _)
        have T' : Blk w9 g 29 #[.string ⟨t1.toArray⟩, .bool t2, .int .i64 (-1), .int .i64 (-1), .int .i64 (0), .int .i64 fr, .int .i64 wh, .int .i64 er, .slice AK 0 ck, .string ⟨#[]⟩, .bool kp] := by rw [hw9]; simpa using ((T.set_ 0 (.string ⟨t1.toArray⟩)).set_ 1 (.bool t2))
        have Z' : Blk w9 w.heap.size 29 #[.string ⟨#[]⟩, .bool false, .int .i64 0, .int .i64 0, .int .i64 0, .int .i64 0, .int .i64 0, .int .i64 0, .slice none 0 0, .string ⟨#[]⟩, .bool false] := by rw [hw9]; exact ((Z.far (show w.heap.size ≠ g by omega) _).far (show w.heap.size ≠ g by omega) _)
        have O' : OwnL LS B1 w9 (.slice AK 0 ck) ([] : List Bs) := by rw [hw9]; exact ((O.far hNB _).far hNB _)
        replace T := T'
        replace Z := Z'
        replace O := O'
        clear hw9 cT fT T' Z' O' hNB
        have cT := T.cell
        have fT := T.frozen
        go_wp2_with fail
        go_meet
        exact ⟨(t1, t2), HP.out, T, O, Z, hB9⟩
  case rest =>
    obtain ⟨t, htg, T, O, Z, hB10⟩ := hcut
    obtain ⟨w10, hw10⟩ : ∃ W : World, W = wc := ⟨_, rfl⟩
    rw [← hw10] at T O Z hB10 ⊢
    clear hw10
    have cT := T.cell
    have fT := T.frozen
    have HTG := hide htg
    clear htg
    go_wp2_with fail
    refine (fget_any v l ⟨#[76, 97, 115, 116, 45, 77, 111, 100, 105, 102, 105, 101, 100]⟩ w10 ((HR.out.below hB10).mono hB10.size) hz (by decide) hll).mono ?_
    rintro e w11 ⟨rfl, hb11⟩
    have hB11 := hB10.trans (hb11.mono hB10.size)
    replace T := T.below hb11 T.lt
    replace Z := Z.below hb11 Z.lt
    replace O := O.below hb11 (Nat.le_refl _)
    clear cT fT hb11
    have cT := T.cell
    have fT := T.frozen
    have hgf : (ofV l (⟨#[76, 97, 115, 116, 45, 77, 111, 100, 105, 102, 105, 101, 100]⟩ : ByteArray).data.toList).head? = getF l nmLm := rfl
    rw [hgf]
    clear hgf
    obtain ⟨gl, hgl⟩ : ∃ r, r = getF l nmLm := ⟨_, rfl⟩
    rw [← hgl]
    have Hgl := hide hgl
    clear hgl
    obtain ⟨sgl, hsgl⟩ : ∃ s : ByteArray, s = ⟨(gl.getD []).toArray⟩ := ⟨_, rfl⟩
    rw [← hsgl]
    have Hsgl := hide hsgl
    clear hsgl
    go_upto_if 43 with fail
    go_cut [7] (fun s7 wx => ∃ n : Int, DateG l n ∧ Blk wx g 29 #[.string ⟨t.1.toArray⟩, .bool t.2, .int .i64 (n), .int .i64 (-1), .int .i64 (0), .int .i64 fr, .int .i64 wh, .int .i64 er, .slice AK 0 ck, .string ⟨#[]⟩, .bool kp] ∧ OwnL LS B1 wx (.slice AK 0 ck) ([] : List Bs) ∧ Blk wx w.heap.size 29 #[.string ⟨#[]⟩, .bool false, .int .i64 0, .int .i64 0, .int .i64 0, .int .i64 0, .int .i64 0, .int .i64 0, .slice none 0 0, .string ⟨#[]⟩, .bool false] ∧ Below w.heap.size w wx)
    case first =>
      cases gl with
      | none =>
        simp only [Option.isSome_none]
        go_wp2_with fail
        go_meet
        exact ⟨-1, (show DateG l (-1) by unfold DateG; rw [← Hgl.out]), T, O, Z, hB11⟩
      | some x =>
        simp only [Option.isSome_some]
        have hsx : sgl.data.toList = x := by rw [Hsgl.out]; rfl
        clear Hsgl
        have hsz : sgl.size ≤ 1000000 := by
          obtain ⟨f9, hf9, e9⟩ := ofV_mem (List.mem_of_mem_head? Hgl.out.symm)
          rw [← lsize, hsx, ← e9]; exact hz2 f9 hf9
        go_wp2_with fail
        refine (dparse_any sgl w11 (by omega)).mono ?_
        rintro e w12 (⟨n, h0, h1, htx, rfl, hb12⟩ | ⟨htx, rfl, hb12⟩)
        · have hB12 := hB11.trans (hb12.mono hB11.size)
          replace T := T.below hb12 T.lt
          replace Z := Z.below hb12 Z.lt
          replace O := O.below hb12 (Nat.le_refl _)
          clear cT fT hb12
          have cT := T.cell
          have fT := T.frozen
          have HP := hide (show DateG l n by unfold DateG; rw [← Hgl.out]; exact ⟨h0, h1, by rw [show (⟨x.toArray⟩ : ByteArray) = sgl from by apply ByteArray.ext; apply Array.toList_inj.1; rw [hsx]]; exact htx⟩)
          clear h0 h1 htx
          go_upto_region 13 with fail
          obtain ⟨w13, hw13⟩ : ∃ W : World, W = (w12).setCell ⟨g, 2, none⟩ (.int .i64 n) := ⟨_, rfl⟩
          rw [← hw13]
          have hNB : Value.ownBlock (.slice AK 0 ck) ≠ some g := O.not_blk T (by decide)
          have hB13 : Below w.heap.size w w13 := by rw [hw13]; exact (below_set hB12 (by omega) _)
          have T' : Blk w13 g 29 #[.string ⟨t.1.toArray⟩, .bool t.2, .int .i64 n, .int .i64 (-1), .int .i64 (0), .int .i64 fr, .int .i64 wh, .int .i64 er, .slice AK 0 ck, .string ⟨#[]⟩, .bool kp] := by rw [hw13]; simpa using (T.set_ 2 (.int .i64 n))
          have Z' : Blk w13 w.heap.size 29 #[.string ⟨#[]⟩, .bool false, .int .i64 0, .int .i64 0, .int .i64 0, .int .i64 0, .int .i64 0, .int .i64 0, .slice none 0 0, .string ⟨#[]⟩, .bool false] := by rw [hw13]; exact (Z.far (show w.heap.size ≠ g by omega) _)
          have O' : OwnL LS B1 w13 (.slice AK 0 ck) ([] : List Bs) := by rw [hw13]; exact (O.far hNB _)
          replace T := T'
          replace Z := Z'
          replace O := O'
          clear hw13 cT fT T' Z' O' hNB
          have cT := T.cell
          have fT := T.frozen
          go_wp2_with fail
          go_meet
          exact ⟨n, HP.out, T, O, Z, hB13⟩
        · have hB12 := hB11.trans (hb12.mono hB11.size)
          replace T := T.below hb12 T.lt
          replace Z := Z.below hb12 Z.lt
          replace O := O.below hb12 (Nat.le_refl _)
          clear cT fT hb12
          have cT := T.cell
          have fT := T.frozen
          have HP := hide (show ∀ n, ¬ DateG l n from fun n hn => by unfold DateG at hn; rw [← Hgl.out] at hn; exact htx n (by rw [show sgl = (⟨x.toArray⟩ : ByteArray) from by apply ByteArray.ext; apply Array.toList_inj.1; rw [hsx]]; exact hn.2.2))
          clear htx
          go_upto_region 13 with fail
          obtain ⟨w13, hw13⟩ : ∃ W : World, W = (w12).setCell ⟨g, 2, none⟩ (.int .i64 0) := ⟨_, rfl⟩
          rw [← hw13]
          have hNB : Value.ownBlock (.slice AK 0 ck) ≠ some g := O.not_blk T (by decide)
          have hB13 : Below w.heap.size w w13 := by rw [hw13]; exact (below_set hB12 (by omega) _)
          have T' : Blk w13 g 29 #[.string ⟨t.1.toArray⟩, .bool t.2, .int .i64 0, .int .i64 (-1), .int .i64 (0), .int .i64 fr, .int .i64 wh, .int .i64 er, .slice AK 0 ck, .string ⟨#[]⟩, .bool kp] := by rw [hw13]; simpa using (T.set_ 2 (.int .i64 0))
          have Z' : Blk w13 w.heap.size 29 #[.string ⟨#[]⟩, .bool false, .int .i64 0, .int .i64 0, .int .i64 0, .int .i64 0, .int .i64 0, .int .i64 0, .slice none 0 0, .string ⟨#[]⟩, .bool false] := by rw [hw13]; exact (Z.far (show w.heap.size ≠ g by omega) _)
          have O' : OwnL LS B1 w13 (.slice AK 0 ck) ([] : List Bs) := by rw [hw13]; exact (O.far hNB _)
          replace T := T'
          replace Z := Z'
          replace O := O'
          clear hw13 cT fT T' Z' O' hNB
          have cT := T.cell
          have fT := T.frozen
          have HI2 := hide infoM
          have HI3 := hide (show (#[.string ⟨#[]⟩, .bool false, .int .i64 0, .int .i64 0, .int .i64 0, .int .i64 0, .int .i64 0, .int .i64 0, .slice none 0 0, .string ⟨#[]⟩, .bool false] : Array Value).all (·.oneCell') = true by simp [Value.oneCell'])
          go_upto_region 14 with fail
          iterate 4 go_step
          refine wpList_store_boxC ?_ ?_ 29 (.tmp 2) (.tmp 52) ?_ w.heap.size 29 #[.string ⟨#[]⟩, .bool false, .int .i64 0, .int .i64 0, .int .i64 0, .int .i64 0, .int .i64 0, .int .i64 0, .slice none 0 0, .string ⟨#[]⟩, .bool false] #[.string ⟨#[]⟩, .bool false, .int .i64 0, .int .i64 0, .int .i64 0, .int .i64 0, .int .i64 0, .int .i64 0, .slice none 0 0, .string ⟨#[]⟩, .bool false] ?_ ?_ Z ?_ ?_ HI3.out ?_
          rfl
          rfl
          rfl
          rfl
          rfl
          rfl
          exact HI2.out
          intro wE ZE hGE
          have cZE := ZE.cell
          repeat go_step
          refine bodyPost_ret (v := .tuple #[.agg #[.string ⟨#[]⟩, .bool false, .int .i64 0, .int .i64 0, .int .i64 0, .int .i64 0, .int .i64 0, .int .i64 0, .slice none 0 0, .string ⟨#[]⟩, .bool false], .int .i64 0, .int .i64 2]) (by simp [results, Tryz.results8, go_sem, cZE]) rfl ⟨?_, .inl ⟨.inr (.inl HP.out), rfl⟩⟩
          exact hGE.bel hB13 (Nat.le_refl _) hB13.size
    case rest =>
      obtain ⟨n, hdn, T, O, Z, hB14⟩ := hcut
      obtain ⟨w14, hw14⟩ : ∃ W : World, W = wc := ⟨_, rfl⟩
      rw [← hw14] at T O Z hB14 ⊢
      clear hw14
      have cT := T.cell
      have fT := T.frozen
      have HDN := hide hdn
      clear hdn
      go_wp2_with fail
      refine (fget_any v l ⟨#[65, 103, 101]⟩ w14 ((HR.out.below hB14).mono hB14.size) hz (by decide) hll).mono ?_
      rintro e w15 ⟨rfl, hb15⟩
      have hB15 := hB14.trans (hb15.mono hB14.size)
      replace T := T.below hb15 T.lt
      replace Z := Z.below hb15 Z.lt
      replace O := O.below hb15 (Nat.le_refl _)
      clear cT fT hb15
      have cT := T.cell
      have fT := T.frozen
      have hgf : (ofV l (⟨#[65, 103, 101]⟩ : ByteArray).data.toList).head? = getF l nmAg := rfl
      rw [hgf]
      clear hgf
      obtain ⟨ga, hga⟩ : ∃ r, r = getF l nmAg := ⟨_, rfl⟩
      rw [← hga]
      have Hga := hide hga
      clear hga
      obtain ⟨sga, hsga⟩ : ∃ s : ByteArray, s = ⟨(ga.getD []).toArray⟩ := ⟨_, rfl⟩
      rw [← hsga]
      have Hsga := hide hsga
      clear hsga
      go_upto_if 58 with fail
      go_cut [6, 7] (fun s6 s7 wx => ∃ a : Int, s6 = .int .i64 a ∧ ageG l = some a ∧ Blk wx g 29 #[.string ⟨t.1.toArray⟩, .bool t.2, .int .i64 (n), .int .i64 (-1), .int .i64 (0), .int .i64 fr, .int .i64 wh, .int .i64 er, .slice AK 0 ck, .string ⟨#[]⟩, .bool kp] ∧ OwnL LS B1 wx (.slice AK 0 ck) ([] : List Bs) ∧ Blk wx w.heap.size 29 #[.string ⟨#[]⟩, .bool false, .int .i64 0, .int .i64 0, .int .i64 0, .int .i64 0, .int .i64 0, .int .i64 0, .slice none 0 0, .string ⟨#[]⟩, .bool false] ∧ Below w.heap.size w wx)
      case first =>
        cases ga with
        | none =>
          simp only [Option.isSome_none]
          go_wp2_with fail
          go_meet
          exact ⟨0, rfl, (show ageG l = some 0 by unfold ageG; rw [← Hga.out]), T, O, Z, hB15⟩
        | some x =>
          simp only [Option.isSome_some]
          have hsx : sga.data.toList = x := by rw [Hsga.out]; rfl
          clear Hsga
          have hsz : sga.size ≤ 1000000 := by
            obtain ⟨f9, hf9, e9⟩ := ofV_mem (List.mem_of_mem_head? Hga.out.symm)
            rw [← lsize, hsx, ← e9]; exact hz2 f9 hf9
          go_wp2_with fail
          refine (cage_any sga w15 hsz).mono ?_
          rintro e w16 ⟨rfl, hb16⟩
          have hB16 := hB15.trans (hb16.mono hB15.size)
          replace T := T.below hb16 T.lt
          replace Z := Z.below hb16 Z.lt
          replace O := O.below hb16 (Nat.le_refl _)
          clear cT fT hb16
          have cT := T.cell
          have fT := T.frozen
          rw [hsx]
          obtain ⟨a, ha⟩ : ∃ a, a = ageV x := ⟨_, rfl⟩
          rw [← ha]
          have HA := hide ha
          clear ha
          by_cases ha0 : a < 0
          · have HP := hide (show ageG l = none by unfold ageG; rw [← Hga.out]; simp only; rw [← HA.out, if_pos ha0])
            rw [if_pos ha0, if_pos ha0]
            clear ha0
            have HI2 := hide infoM
            have HI3 := hide (show (#[.string ⟨#[]⟩, .bool false, .int .i64 0, .int .i64 0, .int .i64 0, .int .i64 0, .int .i64 0, .int .i64 0, .slice none 0 0, .string ⟨#[]⟩, .bool false] : Array Value).all (·.oneCell') = true by simp [Value.oneCell'])
            go_upto_region 19 with fail
            iterate 4 go_step
            refine wpList_store_boxC ?_ ?_ 29 (.tmp 2) (.tmp 66) ?_ w.heap.size 29 #[.string ⟨#[]⟩, .bool false, .int .i64 0, .int .i64 0, .int .i64 0, .int .i64 0, .int .i64 0, .int .i64 0, .slice none 0 0, .string ⟨#[]⟩, .bool false] #[.string ⟨#[]⟩, .bool false, .int .i64 0, .int .i64 0, .int .i64 0, .int .i64 0, .int .i64 0, .int .i64 0, .slice none 0 0, .string ⟨#[]⟩, .bool false] ?_ ?_ Z ?_ ?_ HI3.out ?_
            rfl
            rfl
            rfl
            rfl
            rfl
            rfl
            exact HI2.out
            intro wE ZE hGE
            have cZE := ZE.cell
            repeat go_step
            refine bodyPost_ret (v := .tuple #[.agg #[.string ⟨#[]⟩, .bool false, .int .i64 0, .int .i64 0, .int .i64 0, .int .i64 0, .int .i64 0, .int .i64 0, .slice none 0 0, .string ⟨#[]⟩, .bool false], .int .i64 0, .int .i64 2]) (by simp [results, Tryz.results8, go_sem, cZE]) rfl ⟨?_, .inl ⟨.inr (.inr (.inl HP.out)), rfl⟩⟩
            exact hGE.bel hB16 (Nat.le_refl _) hB16.size
          · have HP := hide (show ageG l = some a by unfold ageG; rw [← Hga.out]; simp only; rw [← HA.out, if_neg ha0])
            rw [if_neg ha0, if_neg ha0]
            clear ha0
            go_wp2_with fail
            go_meet
            exact ⟨a, rfl, HP.out, T, O, Z, hB16⟩
      case rest =>
        obtain ⟨a, rfl, hag, T, O, Z, hB17⟩ := hcut
        obtain ⟨w17, hw17⟩ : ∃ W : World, W = wc := ⟨_, rfl⟩
        rw [← hw17] at T O Z hB17 ⊢
        clear hw17
        have cT := T.cell
        have fT := T.frozen
        have HAG := hide hag
        clear hag
        have hB1z : B1 ≤ w17.heap.size := by have := T.lt; omega
        have hKlt0 := fun k e => (O.lt k e).2
        go_wp2_with fail
        refine (fof_any v l ⟨#[83, 117, 114, 114, 111, 103, 97, 116, 101, 45, 75, 101, 121]⟩ w17 ((HR.out.below hB17).mono hB17.size) hz (by decide) hll).mono ?_
        rintro e w18 ⟨v68, rfl, OV, hb18⟩
        have hB18 := hB17.trans (hb18.mono hB17.size)
        replace T := T.below hb18 T.lt
        replace Z := Z.below hb18 Z.lt
        replace O := O.below hb18 (Nat.le_refl _)
        clear cT fT hb18
        have cT := T.cell
        have fT := T.frozen
        obtain ⟨B2, hB2e⟩ : ∃ n, n = w17.heap.size := ⟨_, rfl⟩
        rw [← hB2e] at OV
        have hKlt : ∀ k, Value.ownBlock (.slice AK 0 ck) = some k → k < B2 := by rw [hB2e]; exact hKlt0
        clear hKlt0
        obtain ⟨vs, hvs⟩ : ∃ vs, vs = ofV l nmSk := ⟨_, rfl⟩
        have OV' : OwnL LW B2 w18 v68 vs := by rw [hvs]; exact OV
        clear OV
        have OV := OV'
        clear OV'
        have HVS := hide hvs
        have hvl : vs.length ≤ 1000 := by rw [hvs]; have := ofV_len l nmSk; omega
        have hvz : ∀ x ∈ vs, x.length ≤ 1000000 := fun x hx => by rw [hvs] at hx; obtain ⟨f9, hf9, e9⟩ := ofV_mem hx; rw [← e9]; exact hz2 f9 hf9
        clear hvs
        obtain ⟨A68, c68, hv68, _, _⟩ := OV.rd.form
        subst hv68
        have HN0 : Hid (Value.ownBlock (.slice A68 vs.length c68) = none ∨ Value.ownBlock (.slice A68 vs.length c68) ≠ Value.ownBlock (.slice AK 0 ck)) := ne_start OV hKlt
        clear hB2e
        go_wp2_with fail
        go_loopw [15, 70] (fun _ c70 wr => ∃ (k : Nat) (AK2 : Option Addr) (nk ck2 : Nat) (ks2 : List Bs), k ≤ vs.length ∧ c70 = .int .i64 (k : Int) ∧ nk = ks2.length ∧ Hid (ks2 = (vs.take k).flatMap wordsB) ∧ Blk wr g 29 #[.string ⟨t.1.toArray⟩, .bool t.2, .int .i64 (n), .int .i64 (-1), .int .i64 (0), .int .i64 fr, .int .i64 wh, .int .i64 er, .slice AK2 nk ck2, .string ⟨#[]⟩, .bool kp] ∧ Hid (OwnL LS B1 wr (.slice AK2 nk ck2) ks2) ∧ Hid (OwnL LW B2 wr (.slice A68 vs.length c68) vs) ∧ Hid (Value.ownBlock (.slice A68 vs.length c68) = none ∨ Value.ownBlock (.slice A68 vs.length c68) ≠ Value.ownBlock (.slice AK2 nk ck2)) ∧ Blk wr w.heap.size 29 #[.string ⟨#[]⟩, .bool false, .int .i64 0, .int .i64 0, .int .i64 0, .int .i64 0, .int .i64 0, .int .i64 0, .slice none 0 0, .string ⟨#[]⟩, .bool false] ∧ Below w.heap.size w wr) (fun _ c70 _ => vs.length - (intOf c70).toNat)
        case atStart => exact ⟨0, AK, 0, ck, [], Nat.zero_le _, rfl, rfl, rfl, T, O, OV, HN0, Z, hB18⟩
        case round =>
          clear T O OV HN0 Z cT fT hB18 hB17
          obtain ⟨k, AK2, nk, ck2, ks2, hk, rfl, hnk, HK, T, HO, HV, HNE, Z, hb⟩ := hrel
          have hks : ks2.length ≤ 901000 := by rw [HK.out, HVS.out]; exact keys_few l k hll0 hsum
          by_cases hlt : k < vs.length
          · obtain ⟨b0, off, hA, hb0, c0⟩ := HV.out.rd.text k hlt
            subst hA
            obtain ⟨s, hs⟩ : ∃ s : ByteArray, s = ⟨vs[k].toArray⟩ := ⟨_, rfl⟩
            rw [← hs] at c0
            have hcl := c0
            clear c0
            have hsx : s.data.toList = vs[k] := by rw [hs]
            have hsz : s.size ≤ 1000000 := by rw [← lsize, hsx]; exact hvz _ (List.getElem_mem hlt)
            clear hs
            obtain ⟨KS3, hKS⟩ : ∃ q, q = ks2 ++ wordsB s.data.toList := ⟨_, rfl⟩
            have HKS := hide hKS
            have HNX := hide (show KS3 = (vs.take (k + 1)).flatMap wordsB by rw [words_take hlt, ← HK.out, hKS, hsx])
            clear hKS
            have hwl : (wordsB s.data.toList).length ≤ 1000001 := by have := (words_len s.data.toList []).1; rw [lsize] at this; unfold wordsB; omega
            have HSX := hide hsx
            clear hsx
            subst hnk
            have hBw : B1 ≤ wr.heap.size := by have := T.lt; omega
            have cT := T.cell
            have fT := T.frozen
            have lT := T.lt
            go_upto_block 1 with fail
            have HTT := hide T
            have HZZ := hide Z
            have HNB := hide (HO.out.not_blk T (by decide))
            have HNZ := hide (HO.out.not_blk Z (by decide))
            have CT := hide (show ∀ W : World, Below wr.heap.size wr W → ∀ i, W.cell? ⟨g, i, none⟩ = (#[.string ⟨t.1.toArray⟩, .bool t.2, .int .i64 (n), .int .i64 (-1), .int .i64 (0), .int .i64 fr, .int .i64 wh, .int .i64 er, .slice AK2 ks2.length ck2, .string ⟨#[]⟩, .bool kp] : Array Value)[i]? from fun W h i => (T.below h T.lt).cell i)
            have FT := hide (show ∀ W : World, Below wr.heap.size wr W → ∀ i, W.frozen? ⟨g, i, none⟩ = false from fun W h i => (T.below h T.lt).frozen i)
            go_cut [15] (fun _ wx => ∃ (AK3 : Option Addr) (ck3 : Nat), Blk wx g 29 #[.string ⟨t.1.toArray⟩, .bool t.2, .int .i64 (n), .int .i64 (-1), .int .i64 (0), .int .i64 fr, .int .i64 wh, .int .i64 er, .slice AK3 KS3.length ck3, .string ⟨#[]⟩, .bool kp] ∧ Hid (OwnL LS B1 wx (.slice AK3 KS3.length ck3) KS3) ∧ Hid (OwnL LW B2 wx (.slice (some ⟨b0, off, none⟩) vs.length c68) vs) ∧ Hid (Value.ownBlock (.slice (some ⟨b0, off, none⟩) vs.length c68) = none ∨ Value.ownBlock (.slice (some ⟨b0, off, none⟩) vs.length c68) ≠ Value.ownBlock (.slice AK3 KS3.length ck3)) ∧ Blk wx w.heap.size 29 #[.string ⟨#[]⟩, .bool false, .int .i64 0, .int .i64 0, .int .i64 0, .int .i64 0, .int .i64 0, .int .i64 0, .slice none 0 0, .string ⟨#[]⟩, .bool false] ∧ Below w.heap.size w wx)
            case first =>
              go_upto_region 23 with fail
              clear cT fT hcl
              have cT0 := CT.out wr (Below.refl _ _)
              have cTd := CT.out wr.drew (Below.drew (Below.refl _ _))
              go_region_law (first | (refine step_appL3 LS wr (by rfl) (.tmp 75) (.tmp 77) _ _ (by rfl) rfl rfl B1 _ ks2 (by rfl) (OwnL.below HO.out (Below.trans (Below.drew (Below.refl _ _)) (Below.mono hbk (Nat.le_refl _))) (Nat.le_refl _)) (Below.mono (Below.trans (Below.drew (Below.refl _ _)) (Below.mono hbk (Nat.le_refl _))) hBw) (Nat.le_trans hBw (Below.size (Below.trans (Below.drew (Below.refl _ _)) (Below.mono hbk (Nat.le_refl _))))) _ (wordsB s.data.toList) _ (by rfl) (show RdL LS _ _ _ _ from O77.rd) (by decide) (by omega) ?_; intro v7 w7 O7 hap hgr hblk; rw [← HKS.out] at O7; obtain ⟨A7, c7, hv7, -, -⟩ := O7.rd.form; subst hv7; have X7 := Blk.grown (Blk.below HTT.out (Below.trans (Below.drew (Below.refl _ _)) (Below.mono hbk (Nat.le_refl _))) HTT.out.lt) hgr HNB.out; have cX7 := X7.cell; have fX7 := X7.frozen) | (go_simp; go_at_call 24; refine (cwords_any s _ hsz).mono ?_; rintro e w8 ⟨v77, rfl, O77, hbk⟩; obtain ⟨A77, c77, hv77, -, -⟩ := O77.rd.form; subst hv77; have cT8 := CT.out w8 (Below.trans (Below.drew (Below.refl _ _)) (Below.mono hbk (Nat.le_refl _))); have fT8 := FT.out w8 (Below.trans (Below.drew (Below.refl _ _)) (Below.mono hbk (Nat.le_refl _)))))
              all_goals (go_wp2_with fail; go_meet)
              all_goals exact ⟨A7, c7, by simpa using X7.set_ 8 (.slice A7 KS3.length c7), OwnL.far O7 (O7.not_blk X7 (by decide)) _, OwnL.far (OwnL.kept (OwnL.below HV.out (Below.trans (Below.drew (Below.refl _ _)) (Below.mono hbk (Nat.le_refl _))) (Nat.le_refl _)) hgr HNE.out) ((OwnL.kept (OwnL.below HV.out (Below.trans (Below.drew (Below.refl _ _)) (Below.mono hbk (Nat.le_refl _))) (Nat.le_refl _)) hgr HNE.out).not_blk X7 (by decide)) _, ne_grown (OwnL.below HV.out (Below.trans (Below.drew (Below.refl _ _)) (Below.mono hbk (Nat.le_refl _))) (Nat.le_refl _)) HNE.out hblk, Blk.far (Blk.grown (Blk.below HZZ.out (Below.trans (Below.drew (Below.refl _ _)) (Below.mono hbk (Nat.le_refl _))) HZZ.out.lt) hgr HNZ.out) (show w.heap.size ≠ g by omega) _, below_set (hb.trans (Below.mono hap (by omega))) (by omega) _⟩
            case rest =>
              clear T Z cT fT HTT HZZ HNB HNZ CT FT hb HO HV HNE
              obtain ⟨AK3, ck3, T, HO, HV, HNE, Z, hb⟩ := hcut
              go_wp2_with fail
              go_roundw
              case rel => exact ⟨k + 1, AK3, KS3.length, ck3, KS3, by omega, by go_num, rfl, HNX, T, HO, HV, HNE, Z, hb⟩
              case measure => simp [intOf] <;> omega
          · have HKK := hide (show ks2 = keysG l by rw [HK.out, List.take_of_length_le (by omega), HVS.out]; rfl)
            subst hnk
            have O := HO.out
            obtain ⟨w20, hw20⟩ : ∃ W : World, W = wr := ⟨_, rfl⟩
            rw [← hw20] at T O Z hb ⊢
            have hB20 := hb
            clear hw20 hb HO HV HNE hk
            have cT := T.cell
            have fT := T.frozen
            obtain ⟨tn, htn⟩ : ∃ b : ByteArray, b = ⟨((getF l nmXt).getD []).toArray⟩ := ⟨_, rfl⟩
            have HTN := hide (show tn = ⟨(tenG l).toArray⟩ from htn)
            have htz : tn.size ≤ 9223372036854775807 := by
              rw [htn, ← lsize]
              cases hgx : getF l nmXt with
              | none => simp
              | some x =>
                obtain ⟨f9, hf9, e9⟩ := ofV_mem (List.mem_of_mem_head? hgx)
                have := hz2 f9 hf9
                show x.length ≤ _
                rw [← e9]
                omega
            have HTX := hide htn
            clear htn
            go_upto_region 25 with fail
            go_cut [] (fun wx => Blk wx g 29 #[.string ⟨t.1.toArray⟩, .bool t.2, .int .i64 (n), .int .i64 (-1), .int .i64 (0), .int .i64 fr, .int .i64 wh, .int .i64 er, .slice AK2 ks2.length ck2, .string tn, .bool kp] ∧ OwnL LS B1 wx (.slice AK2 ks2.length ck2) ks2 ∧ Blk wx w.heap.size 29 #[.string ⟨#[]⟩, .bool false, .int .i64 0, .int .i64 0, .int .i64 0, .int .i64 0, .int .i64 0, .int .i64 0, .slice none 0 0, .string ⟨#[]⟩, .bool false] ∧ Below w.heap.size w wx)
            case first =>
              go_wp2_with fail
              refine (fget_any v l ⟨#[88, 45, 84, 101, 110, 97, 110, 116]⟩ w20 ((HR.out.below hB20).mono hB20.size) hz (by decide) hll).mono ?_
              rintro e w21 ⟨rfl, hb21⟩
              have hB21 := hB20.trans (hb21.mono hB20.size)
              replace T := T.below hb21 T.lt
              replace Z := Z.below hb21 Z.lt
              replace O := O.below hb21 (Nat.le_refl _)
              clear cT fT hb21
              have cT := T.cell
              have fT := T.frozen
              have hgf : (ofV l (⟨#[88, 45, 84, 101, 110, 97, 110, 116]⟩ : ByteArray).data.toList).head? = getF l nmXt := rfl
              rw [hgf]
              clear hgf
              rw [← HTX.out]
              go_upto_region 26 with fail
              obtain ⟨w22, hw22⟩ : ∃ W : World, W = (w21).setCell ⟨g, 9, none⟩ (.string tn) := ⟨_, rfl⟩
              rw [← hw22]
              have hNB : Value.ownBlock (.slice AK2 ks2.length ck2) ≠ some g := O.not_blk T (by decide)
              have hB22 : Below w.heap.size w w22 := by rw [hw22]; exact (below_set hB21 (by omega) _)
              have T' : Blk w22 g 29 #[.string ⟨t.1.toArray⟩, .bool t.2, .int .i64 (n), .int .i64 (-1), .int .i64 (0), .int .i64 fr, .int .i64 wh, .int .i64 er, .slice AK2 ks2.length ck2, .string tn, .bool kp] := by rw [hw22]; simpa using (T.set_ 9 (.string tn))
              have Z' : Blk w22 w.heap.size 29 #[.string ⟨#[]⟩, .bool false, .int .i64 0, .int .i64 0, .int .i64 0, .int .i64 0, .int .i64 0, .int .i64 0, .slice none 0 0, .string ⟨#[]⟩, .bool false] := by rw [hw22]; exact (Z.far (show w.heap.size ≠ g by omega) _)
              have O' : OwnL LS B1 w22 (.slice AK2 ks2.length ck2) ks2 := by rw [hw22]; exact (O.far hNB _)
              replace T := T'
              replace Z := Z'
              replace O := O'
              clear hw22 cT fT T' Z' O' hNB
              have cT := T.cell
              have fT := T.frozen
              go_wp2_with fail
              go_meet
              exact ⟨T, O, Z, hB22⟩
            case rest =>
              clear T O Z cT fT hB20
              obtain ⟨T, O, Z, hB22⟩ := hcut
              obtain ⟨w22, hw22⟩ : ∃ W : World, W = wc := ⟨_, rfl⟩
              rw [← hw22] at T O Z hB22 ⊢
              clear hw22
              have cT := T.cell
              have fT := T.frozen
              have hNBT := O.not_blk T (by decide)
              go_wp2_with fail
              refine (clengths_any v l g w.heap.size ⟨t.1.toArray⟩ t.2 n fr wh er (.slice AK2 ks2.length ck2) tn kp 0 w22 (HR.out.below hB22) (Nat.le_of_lt hgw) hB22.size hz hz2 hll T).mono ?_
              rintro e w23 ⟨b, ln, hv, rfl, T', hG, hb0, hb1⟩
              have hB23 := hG.bel hB22 (Nat.le_of_lt hgw) hB22.size
              have Z' := hG.blk Z (show w.heap.size ≠ g by omega)
              have O' := OwnL.kept O hG (.inr hNBT)
              clear cT fT T O Z hNBT
              have T := T'
              have O := O'
              have Z := Z'
              clear T' O' Z' hG
              have cT := T.cell
              have fT := T.frozen
              cases b
              · have HF := hide (show FromIs l none by
                  rcases hb0 rfl with h | ⟨m, h1, h2⟩
                  · exact .inr (.inr (.inr (.inl h)))
                  · exact .inr (.inr (.inr (.inr (.inl ⟨m, h1, h2⟩)))))
                clear hb0 hb1
                have HI2 := hide infoM
                have HI3 := hide (show (#[.string ⟨#[]⟩, .bool false, .int .i64 0, .int .i64 0, .int .i64 0, .int .i64 0, .int .i64 0, .int .i64 0, .slice none 0 0, .string ⟨#[]⟩, .bool false] : Array Value).all (·.oneCell') = true by simp [Value.oneCell'])
                go_upto_region 27 with fail
                iterate 4 go_step
                refine wpList_store_boxC ?_ ?_ 29 (.tmp 2) (.tmp 95) ?_ w.heap.size 29 #[.string ⟨#[]⟩, .bool false, .int .i64 0, .int .i64 0, .int .i64 0, .int .i64 0, .int .i64 0, .int .i64 0, .slice none 0 0, .string ⟨#[]⟩, .bool false] #[.string ⟨#[]⟩, .bool false, .int .i64 0, .int .i64 0, .int .i64 0, .int .i64 0, .int .i64 0, .int .i64 0, .slice none 0 0, .string ⟨#[]⟩, .bool false] ?_ ?_ Z ?_ ?_ HI3.out ?_
                rfl
                rfl
                rfl
                rfl
                rfl
                rfl
                exact HI2.out
                intro wE ZE hGE
                have cZE := ZE.cell
                repeat go_step
                refine bodyPost_ret (v := .tuple #[.agg #[.string ⟨#[]⟩, .bool false, .int .i64 0, .int .i64 0, .int .i64 0, .int .i64 0, .int .i64 0, .int .i64 0, .slice none 0 0, .string ⟨#[]⟩, .bool false], .int .i64 0, .int .i64 2]) (by simp [results, Tryz.results8, go_sem, cZE]) rfl ⟨?_, .inl ⟨HF.out, rfl⟩⟩
                exact hGE.bel hB23 (Nat.le_refl _) hB23.size
              · obtain ⟨hl1, hl2⟩ := hb1 rfl
                have HL1 := hide hl1
                have HL2 := hide hl2
                clear hb0 hb1 hl1 hl2
                have HMG := hide (show metaG l t n ln hv = (⟨t, n, ln, hv, fr, wh, er, ks2, tenG l, kp⟩ : MetaM) by unfold metaG; rw [HRU.out, HKK.out]; simp only [HFR.out, HWH.out, HER.out, HKP.out])
                have hmt : (⟨t.1.toArray⟩ : ByteArray).size ≤ 9223372036854775807 := by rw [← lsize]; exact tag_small HTG.out
                have hkz : ∀ x ∈ ks2, x.length ≤ 9223372036854775807 := fun x hx => by rw [HKK.out] at hx; have := keys_small hz2 hx; omega
                go_wp2_with fail
                refine (meta_right ⟨t.1.toArray⟩ t.2 n ln hv fr wh er _ tn kp (ks2.map fun x => (⟨x.toArray⟩ : ByteArray)) w23 hmt htz (rd_strs O.rd hkz)).mono ?_
                rintro e w24 ⟨rfl, hb24⟩
                have hB24 := hB23.trans (hb24.mono hB23.size)
                replace T := T.below hb24 T.lt
                replace Z := Z.below hb24 Z.lt
                replace O := O.below hb24 (Nat.le_refl _)
                clear cT fT hb24
                have cT := T.cell
                have fT := T.frozen
                have hok : (⟨t, n, ln, hv, fr, wh, er, ks2, tenG l, kp⟩ : MetaM).ok = metaOk ⟨t.1.toArray⟩ t.2 n ln hv fr wh er (ks2.map fun x => (⟨x.toArray⟩ : ByteArray)) tn := by rw [HTN.out]; rfl
                rw [← hok]
                cases q : (⟨t, n, ln, hv, fr, wh, er, ks2, tenG l, kp⟩ : MetaM).ok
                · have HF := hide (show FromIs l none from .inr (.inr (.inr (.inr (.inr ⟨t, n, ln, hv, HTG.out, HDN.out, HL1.out, HL2.out, by rw [HMG.out]; exact q⟩)))))
                  clear q hok
                  have HI2 := hide infoM
                  have HI3 := hide (show (#[.string ⟨#[]⟩, .bool false, .int .i64 0, .int .i64 0, .int .i64 0, .int .i64 0, .int .i64 0, .int .i64 0, .slice none 0 0, .string ⟨#[]⟩, .bool false] : Array Value).all (·.oneCell') = true by simp [Value.oneCell'])
                  go_upto_region 27 with fail
                  iterate 4 go_step
                  refine wpList_store_boxC ?_ ?_ 29 (.tmp 2) (.tmp 95) ?_ w.heap.size 29 #[.string ⟨#[]⟩, .bool false, .int .i64 0, .int .i64 0, .int .i64 0, .int .i64 0, .int .i64 0, .int .i64 0, .slice none 0 0, .string ⟨#[]⟩, .bool false] #[.string ⟨#[]⟩, .bool false, .int .i64 0, .int .i64 0, .int .i64 0, .int .i64 0, .int .i64 0, .int .i64 0, .slice none 0 0, .string ⟨#[]⟩, .bool false] ?_ ?_ Z ?_ ?_ HI3.out ?_
                  rfl
                  rfl
                  rfl
                  rfl
                  rfl
                  rfl
                  exact HI2.out
                  intro wE ZE hGE
                  have cZE := ZE.cell
                  repeat go_step
                  refine bodyPost_ret (v := .tuple #[.agg #[.string ⟨#[]⟩, .bool false, .int .i64 0, .int .i64 0, .int .i64 0, .int .i64 0, .int .i64 0, .int .i64 0, .slice none 0 0, .string ⟨#[]⟩, .bool false], .int .i64 0, .int .i64 2]) (by simp [results, Tryz.results8, go_sem, cZE]) rfl ⟨?_, .inl ⟨HF.out, rfl⟩⟩
                  exact hGE.bel hB24 (Nat.le_refl _) hB24.size
                · have HOK := hide q
                  have HTN2 := HTN
                  clear q hok
                  have HI2 := hide infoM
                  have HI3 := hide (show (#[.string ⟨t.1.toArray⟩, .bool t.2, .int .i64 (n), .int .i64 (ln), .int .i64 (hv), .int .i64 fr, .int .i64 wh, .int .i64 er, .slice AK2 ks2.length ck2, .string tn, .bool kp] : Array Value).all (·.oneCell') = true by simp [Value.oneCell'])
                  go_upto_region 28 with fail
                  iterate 7 go_step
                  refine wpList_store_boxC ?_ ?_ 29 (.tmp 2) (.tmp 96) ?_ w.heap.size 29 #[.string ⟨#[]⟩, .bool false, .int .i64 0, .int .i64 0, .int .i64 0, .int .i64 0, .int .i64 0, .int .i64 0, .slice none 0 0, .string ⟨#[]⟩, .bool false] #[.string ⟨t.1.toArray⟩, .bool t.2, .int .i64 (n), .int .i64 (ln), .int .i64 (hv), .int .i64 fr, .int .i64 wh, .int .i64 er, .slice AK2 ks2.length ck2, .string tn, .bool kp] ?_ ?_ Z ?_ ?_ HI3.out ?_
                  rfl
                  rfl
                  rfl
                  rfl
                  rfl
                  rfl
                  exact HI2.out
                  intro wE ZE hGE
                  have cZE := ZE.cell
                  repeat go_step
                  refine bodyPost_ret (v := .tuple #[.agg #[.string ⟨t.1.toArray⟩, .bool t.2, .int .i64 (n), .int .i64 (ln), .int .i64 (hv), .int .i64 fr, .int .i64 wh, .int .i64 er, .slice AK2 ks2.length ck2, .string tn, .bool kp], .int .i64 a, .int .i64 0]) (by simp [results, Tryz.results8, go_sem, cZE]) rfl ⟨?_, .inr ⟨(⟨t, n, ln, hv, fr, wh, er, ks2, tenG l, kp⟩ : MetaM), a, _, ⟨t, n, ln, hv, HTG.out, HDN.out, HAG.out, HL1.out, HL2.out, HMG.out.symm, HOK.out⟩, rfl, _, by rw [HTN.out], ?_⟩⟩
                  · exact hGE.bel hB24 (Nat.le_refl _) hB24.size
                  · exact (OwnL.kept O hGE (.inr (O.not_blk Z (by decide)))).mono (Nat.le_of_lt hB1w)

end Go.Proofs.YtmelcndflllgmaaGreatDoor
namespace Go.Proofs.YtmelcndflllgmaaGreatDoor
open Go.RowKit
set_option linter.unusedVariables false
set_option linter.unusedSimpArgs false

set_option maxRecDepth 100000 in
set_option maxHeartbeats 4000000 in
theorem rget7_any (v : Value) (l : List FieldL) (n : ByteArray) (w : World) (hr : RdL LF w w.heap.size v l) (hz : ∀ f ∈ l, f.1.length ≤ 1000000) (hn : n.size ≤ 1000000) (hll : l.length ≤ 1000000) : Calls Tryz.prog 31 #[v, .string n] w (GetOk (ofV l n.data.toList).head? w) := by
  go_enter Tryz.func31, Tryz.ntmps31
  go_wp2_with fail
  refine (rof7_any v l n w hr hz hn hll).mono ?_
  rintro e w1 ⟨v1, rfl, O1, hb1⟩
  obtain ⟨vs, hvs⟩ : ∃ x, x = ofV l n.data.toList := ⟨_, rfl⟩
  have hvl : vs.length ≤ 1000000 := by rw [hvs]; have := ofV_len l n.data.toList; omega
  rw [← hvs] at O1
  have HVS := hide hvs
  clear hvs
  obtain ⟨A1, c1, hv1, _, _⟩ := O1.rd.form
  subst hv1
  cases vs with
  | nil =>
    go_wp2_with fail
    go_ret2
    exact ⟨ret_get (b := false) (by rw [← HVS.out]; rfl) (fun _ => rfl), hb1⟩
  | cons x r =>
    obtain ⟨b0, off, hA, hb0, c0⟩ := O1.rd.text 0 (by simp)
    subst hA
    obtain ⟨N, hN⟩ : ∃ N, N = (x :: r).length := ⟨_, rfl⟩
    have hN1 : 0 < N := by rw [hN]; simp
    obtain ⟨s, hs⟩ : ∃ s : ByteArray, s = ⟨x.toArray⟩ := ⟨_, rfl⟩
    have d0 : w1.cell? ⟨b0, off, none⟩ = some (.string s) := by rw [hs]; simpa using c0
    have hsx : s.data.toList = x := by rw [hs]
    have HX := hide (show (x :: r).head? = some s.data.toList by rw [hsx]; rfl)
    have hn0 : ((N : Int) == 0) = false := by rw [beq_eq_false_iff_ne]; omega
    rw [← hN]
    clear hs c0 hsx O1 hN hvl
    have hN2 : (0 : Int) < (N : Int) := by omega
    go_wp2_with fail
    go_ret2
    exact ⟨ret_get (b := true) (by rw [← HVS.out]; exact HX.out) (by simp), hb1⟩

/-- What the reference's sizes tells. -/
def RSizeOk (l : List FieldL) (w : World) (e : Ending) (w' : World) : Prop :=
  ∃ (ln hv : Int) (b : Bool), e = .returned (.tuple #[.int .i64 ln, .int .i64 hv, .bool b]) ∧ Below w.heap.size w w' ∧
    (b = false → lenG l = none ∨ ∃ n, lenG l = some n ∧ haveG l n = none) ∧ (b = true → lenG l = some ln ∧ haveG l ln = some hv)

set_option maxRecDepth 100000 in
set_option maxHeartbeats 16000000 in
theorem rsizes_any (v : Value) (l : List FieldL) (w0 : World) (hr : RdL LF w0 w0.heap.size v l) (hz : ∀ f ∈ l, f.1.length ≤ 1000000) (hz2 : ∀ f ∈ l, f.2.length ≤ 1000000) (hll : l.length ≤ 1000000) : Calls Tryz.prog 36 #[v] w0 (RSizeOk l w0) := by
  have HR := hide hr
  clear hr
  go_enter Tryz.func36, Tryz.ntmps36
  go_wp2_with fail
  refine (rget7_any v l ⟨#[88, 45, 76, 101, 110, 103, 116, 104]⟩ w0 HR.out hz (by decide) hll).mono ?_
  rintro e w1 ⟨rfl, hb1⟩
  have hB1 := hb1
  have hgf : (ofV l (⟨#[88, 45, 76, 101, 110, 103, 116, 104]⟩ : ByteArray).data.toList).head? = getF l nmXl := rfl
  rw [hgf]
  clear hgf
  cases hh : getF l nmXl with
  | none =>
    have HL := hide (lenG_none hh)
    clear hh
    simp only [Option.getD_none, Option.isSome_none]
    go_wp2_with fail
    refine (rget7_any v l ⟨#[88, 45, 72, 97, 118, 101]⟩ w1 ((HR.out.below hB1).mono hB1.size) hz (by decide) hll).mono ?_
    rintro e w2 ⟨rfl, hb2⟩
    have hB2 := hB1.trans (hb2.mono hB1.size)
    clear hb2
    have hgf : (ofV l (⟨#[88, 45, 72, 97, 118, 101]⟩ : ByteArray).data.toList).head? = getF l nmXh := rfl
    rw [hgf]
    clear hgf
    cases hh : getF l nmXh with
    | none =>
      have HH := hide (haveG_none (n := -1) hh)
      clear hh
      simp only [Option.getD_none, Option.isSome_none]
      go_wp2_with fail
      go_ret3
      exact ⟨-1, 0, true, rfl, hB2, by simp, fun _ => ⟨HL.out, HH.out⟩⟩
    | some x =>
      have HHX := hide hh
      simp only [Option.getD_some, Option.isSome_some]
      obtain ⟨s, hs⟩ : ∃ s : ByteArray, s = ⟨x.toArray⟩ := ⟨_, rfl⟩
      rw [← hs]
      have hsx : s.data.toList = x := by rw [hs]
      have hsz : s.size ≤ 1000000 := by
        obtain ⟨f9, hf9, e9⟩ := ofV_mem (List.mem_of_mem_head? hh)
        rw [← lsize, hsx, ← e9]; exact hz2 f9 hf9
      clear hs hh
      go_wp2_with fail
      refine (rnumz_any s w2 (by omega)).mono ?_
      rintro e w' ⟨rfl, rfl⟩
      rw [hsx]
      have hnb := numZ_bd x
      obtain ⟨n, hn⟩ : ∃ n, n = numZ x := ⟨_, rfl⟩
      rw [← hn] at hnb ⊢
      have HN := hide hn
      clear hn
      by_cases hn0 : n < 0
      · have d0 : decide (0 ≤ n) = false := decide_eq_false (by omega)
        have HB := hide (haveG_bad (n := -1) HHX.out (by rw [← HN.out]; exact .inl hn0))
        rw [if_pos hn0, d0]
        clear hn0 hnb
        go_wp2_with fail
        go_ret3
        exact ⟨_, _, false, rfl, hB2, fun _ => .inr ⟨_, HL.out, HB.out⟩, by simp⟩
      · have d0 : decide (0 ≤ n) = true := decide_eq_true (by omega)
        rw [if_neg hn0, d0]
        have HO := hide (show haveG l (-1) = some n by rw [HN.out]; exact haveG_num HHX.out (by rw [← HN.out]; omega))
        clear hn0 hnb
        go_wp2_with fail
        go_ret3
        exact ⟨-1, n, true, rfl, hB2, by simp, fun _ => ⟨HL.out, HO.out⟩⟩
  | some x =>
    have HHL := hide hh
    simp only [Option.getD_some, Option.isSome_some]
    obtain ⟨s, hs⟩ : ∃ s : ByteArray, s = ⟨x.toArray⟩ := ⟨_, rfl⟩
    rw [← hs]
    have hsx : s.data.toList = x := by rw [hs]
    have hsz : s.size ≤ 1000000 := by
      obtain ⟨f9, hf9, e9⟩ := ofV_mem (List.mem_of_mem_head? hh)
      rw [← lsize, hsx, ← e9]; exact hz2 f9 hf9
    clear hs hh
    by_cases hst : x = [42]
    · have es : (s.toList == [42]) = true := by rw [ByteArray.toList_eq, hsx, beq_iff_eq]; exact hst
      have es2 : (s.toList != [42]) = false := by rw [bne, es]; rfl
      have HL := hide (lenG_star (hst ▸ HHL.out))
      clear hst
      go_wp2_with fail
      refine (rget7_any v l ⟨#[88, 45, 72, 97, 118, 101]⟩ w1 ((HR.out.below hB1).mono hB1.size) hz (by decide) hll).mono ?_
      rintro e w2 ⟨rfl, hb2⟩
      have hB2 := hB1.trans (hb2.mono hB1.size)
      clear hb2
      have hgf : (ofV l (⟨#[88, 45, 72, 97, 118, 101]⟩ : ByteArray).data.toList).head? = getF l nmXh := rfl
      rw [hgf]
      clear hgf
      cases hh : getF l nmXh with
      | none =>
        have HH := hide (haveG_none (n := -1) hh)
        clear hh
        simp only [Option.getD_none, Option.isSome_none]
        go_wp2_with fail
        go_ret3
        exact ⟨-1, 0, true, rfl, hB2, by simp, fun _ => ⟨HL.out, HH.out⟩⟩
      | some x =>
        have HHX := hide hh
        simp only [Option.getD_some, Option.isSome_some]
        obtain ⟨s, hs⟩ : ∃ s : ByteArray, s = ⟨x.toArray⟩ := ⟨_, rfl⟩
        rw [← hs]
        have hsx : s.data.toList = x := by rw [hs]
        have hsz : s.size ≤ 1000000 := by
          obtain ⟨f9, hf9, e9⟩ := ofV_mem (List.mem_of_mem_head? hh)
          rw [← lsize, hsx, ← e9]; exact hz2 f9 hf9
        clear hs hh
        go_wp2_with fail
        refine (rnumz_any s w2 (by omega)).mono ?_
        rintro e w' ⟨rfl, rfl⟩
        rw [hsx]
        have hnb := numZ_bd x
        obtain ⟨n, hn⟩ : ∃ n, n = numZ x := ⟨_, rfl⟩
        rw [← hn] at hnb ⊢
        have HN := hide hn
        clear hn
        by_cases hn0 : n < 0
        · have d0 : decide (0 ≤ n) = false := decide_eq_false (by omega)
          have HB := hide (haveG_bad (n := -1) HHX.out (by rw [← HN.out]; exact .inl hn0))
          rw [if_pos hn0, d0]
          clear hn0 hnb
          go_wp2_with fail
          go_ret3
          exact ⟨_, _, false, rfl, hB2, fun _ => .inr ⟨_, HL.out, HB.out⟩, by simp⟩
        · have d0 : decide (0 ≤ n) = true := decide_eq_true (by omega)
          rw [if_neg hn0, d0]
          have HO := hide (show haveG l (-1) = some n by rw [HN.out]; exact haveG_num HHX.out (by rw [← HN.out]; omega))
          clear hn0 hnb
          go_wp2_with fail
          go_ret3
          exact ⟨-1, n, true, rfl, hB2, by simp, fun _ => ⟨HL.out, HO.out⟩⟩
    · have es : (s.toList == [42]) = false := by rw [ByteArray.toList_eq, hsx, beq_eq_false_iff_ne]; exact hst
      have es2 : (s.toList != [42]) = true := by rw [bne, es]; rfl
      have HST := hide hst
      clear hst
      go_wp2_with fail
      refine (rnumz_any s w1 (by omega)).mono ?_
      rintro e w' ⟨rfl, rfl⟩
      rw [hsx]
      have hnb := numZ_bd x
      obtain ⟨m, hm⟩ : ∃ n, n = numZ x := ⟨_, rfl⟩
      rw [← hm] at hnb ⊢
      have HM := hide hm
      clear hm
      by_cases hm0 : m < 0
      · have d0 : decide (0 ≤ m) = false := decide_eq_false (by omega)
        have HB := hide (lenG_bad HHL.out HST.out (by rw [← HM.out]; exact hm0))
        rw [if_pos hm0, d0]
        clear hm0 hnb
        go_wp2_with fail
        go_ret3
        exact ⟨_, _, false, rfl, hB1, fun _ => .inl HB.out, by simp⟩
      · have d0 : decide (0 ≤ m) = true := decide_eq_true (by omega)
        have HL := hide (show lenG l = some m by rw [HM.out]; exact lenG_num HHL.out HST.out (by rw [← HM.out]; omega))
        have hmx : 0 ≤ m := by omega
        rw [if_neg hm0, d0]
        clear hm0 es es2 hsx hsz
        go_wp2_with fail
        refine (rget7_any v l ⟨#[88, 45, 72, 97, 118, 101]⟩ w1 ((HR.out.below hB1).mono hB1.size) hz (by decide) hll).mono ?_
        rintro e w2 ⟨rfl, hb2⟩
        have hB2 := hB1.trans (hb2.mono hB1.size)
        clear hb2
        have hgf : (ofV l (⟨#[88, 45, 72, 97, 118, 101]⟩ : ByteArray).data.toList).head? = getF l nmXh := rfl
        rw [hgf]
        clear hgf
        cases hh : getF l nmXh with
        | none =>
          have HH := hide (show haveG l m = some m by rw [haveG_none (n := m) hh]; congr 1; omega)
          clear hh
          simp only [Option.getD_none, Option.isSome_none]
          go_wp2_with fail
          go_ret3
          exact ⟨m, m, true, rfl, hB2, by simp, fun _ => ⟨HL.out, HH.out⟩⟩
        | some x =>
          have HHX := hide hh
          simp only [Option.getD_some, Option.isSome_some]
          obtain ⟨s, hs⟩ : ∃ s : ByteArray, s = ⟨x.toArray⟩ := ⟨_, rfl⟩
          rw [← hs]
          have hsx : s.data.toList = x := by rw [hs]
          have hsz : s.size ≤ 1000000 := by
            obtain ⟨f9, hf9, e9⟩ := ofV_mem (List.mem_of_mem_head? hh)
            rw [← lsize, hsx, ← e9]; exact hz2 f9 hf9
          clear hs hh
          go_wp2_with fail
          refine (rnumz_any s w2 (by omega)).mono ?_
          rintro e w' ⟨rfl, rfl⟩
          rw [hsx]
          have hnb := numZ_bd x
          obtain ⟨n, hn⟩ : ∃ n, n = numZ x := ⟨_, rfl⟩
          rw [← hn] at hnb ⊢
          have HN := hide hn
          clear hn
          by_cases hn0 : n < 0
          · have d0 : decide (0 ≤ n) = false := decide_eq_false (by omega)
            have HB := hide (haveG_bad (n := m) HHX.out (by rw [← HN.out]; exact .inl hn0))
            rw [if_pos hn0, d0]
            clear hn0 hnb
            go_wp2_with fail
            go_ret3
            exact ⟨_, _, false, rfl, hB2, fun _ => .inr ⟨_, HL.out, HB.out⟩, by simp⟩
          · have d0 : decide (0 ≤ n) = true := decide_eq_true (by omega)
            rw [if_neg hn0, d0]
            by_cases hne : n = m
            · have de : (n == m) = true := by rw [beq_iff_eq]; exact hne
              have de2 : (n != m) = false := by rw [bne, de]; rfl
              have HO := hide (show haveG l m = some n by rw [HN.out]; exact haveG_num HHX.out (by rw [← HN.out]; omega))
              clear hn0 hnb hne
              go_wp2_with fail
              go_ret3
              exact ⟨m, n, true, rfl, hB2, by simp, fun _ => ⟨HL.out, HO.out⟩⟩
            · have de : (n == m) = false := by rw [beq_eq_false_iff_ne]; exact hne
              have de2 : (n != m) = true := by rw [bne, de]; rfl
              have HB := hide (haveG_bad (n := m) HHX.out (by rw [← HN.out]; exact .inr ⟨by omega, hne⟩))
              clear hn0 hnb hne
              go_wp2_with fail
              go_ret3
              exact ⟨_, _, false, rfl, hB2, fun _ => .inr ⟨_, HL.out, HB.out⟩, by simp⟩

/-- Whether fields are too many or too long; if not, how many and how long. -/
def GreatOk (l : List FieldL) (w : World) (e : Ending) (w' : World) : Prop := ∃ r : Bool, e = .returned (.bool r) ∧ Below w.heap.size w w' ∧ (r = false → l.length ≤ 130 ∧ sumF l ≤ 12000)
theorem sumF_bd {M : Nat} : ∀ (l : List FieldL), (∀ f ∈ l, f.1.length ≤ M ∧ f.2.length ≤ M) → sumF l ≤ l.length * (M + M)
  | [], _ => by simp [sumF]
  | f :: r, h => by
    have := sumF_bd r (fun g hg => h g (by simp [hg]))
    have := h f (by simp)
    rw [sumF, List.length_cons, Nat.succ_mul]
    omega
theorem sumF_take {l : List FieldL} {k : Nat} (h : k < l.length) : sumF (l.take (k + 1)) = sumF (l.take k) + (l[k].1.length + l[k].2.length) := by
  rw [List.take_succ_eq_append_getElem h, sumF_app]; simp [sumF]

end Go.Proofs.YtmelcndflllgmaaGreatDoor
