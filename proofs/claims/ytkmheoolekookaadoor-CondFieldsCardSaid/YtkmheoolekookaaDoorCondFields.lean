/-
  Whether any conditions are right, and their fields, are what the reference says; right ones are read of these as they were: for every conditions.
-/
import Derived.Test.YtkmheoolekookaaDoorCndJ
import Derived.Test.YtkmheoolekookaaDoorCondE
import Derived.Test.YtkmheoolekookaaDoorGrO
import Derived.Test.YtkmheoolekookaaDoorGrL
import Derived.Test.YtkmheoolekookaaDoorTie
import Derived.Test.YtkmheoolekookaaDoorCards
import Derived.SevenTiedAt
import Derived.Deep.DeepCutAuto
import Derived.Deep.RegionHeld3
import Derived.Test.YtkmheoolekookaaDoorGrU
import Derived.BigQuiet
namespace Go.Proofs.YtkmheoolekookaaDoor.condFields
open Go.ChangeShapes Go.WideShapes Go.ChangeAt Go.RowKit Go.Deep
set_option linter.unusedVariables false
set_option linter.unusedSimpArgs false


set_option maxRecDepth 100000 in
/-- Tags that stand in a value that comes in. -/
theorem open_tags_in {H : Type} {enc : TypeId × Value → H} {w : World} {fuel : Nat} {cs : List Value} {x : DataW H × List MemPlace} (h : DataW.trod enc Tryd.prog w 0 (fun _ => true) true fuel 25 cs = some x) (hw : ∀ n ∈ x.1.weights Tryd.prog 25, n ≤ reachBytes) :
    ∃ (v : Value) (ts : List TagL), cs = [v] ∧ RdL LT w w.heap.size v ts ∧ ∀ t ∈ ts, t.1.length ≤ 9223372036854775807 := by
  rcases open_slice Tryd.underlying25 h with ⟨hcs, _⟩ | ⟨a, len, cap, m, n, D, Pl, hcs, _, hl, hm, hmm, hx, hi⟩
  · exact ⟨_, [], hcs, RdL.nil _ _ _ _ (by omega), by simp⟩
  · obtain ⟨y, z⟩ := x
    simp only [Prod.mk.injEq] at hx
    obtain ⟨rfl, _⟩ := hx
    have hmc : m = cap := by simpa using hmm
    have hM := mLen
    obtain ⟨ts, hts, hc⟩ := list_of (T := Tag) (D := fun i t => t.1.size ≤ 140737488351232 ∧ w.cell? (a.add (i * 2)) = some (.string t.1) ∧ w.cell? ((a.add (i * 2)).add 1) = some (.bool t.2)) len (fun i hil => by
      obtain ⟨cs', hc', ht'⟩ := hi i (by omega)
      obtain ⟨s, b, rfl, h1, h2⟩ := open_tag_sized ht'
      have hc2 : Tryd.prog.cellsOf 27 = 2 := cellsTag
      rw [hc2] at hc'
      obtain ⟨_, _, hat⟩ := World.cells?_some hc'
      refine ⟨(s, b), h2 (fun n hn => hw n ?_), by simpa [Addr.add] using hat 0 (by omega), by simpa using hat 1 (by omega)⟩
      simp only [DataW.weights, Tryd.underlying25, List.mem_cons, List.mem_append]
      exact .inr (.inl (weightsAll_mem hn (List.mem_map.2 ⟨i, by simpa using hil, rfl⟩))))
    refine ⟨_, ts.map TagL.of, hcs, ⟨by simp; omega, some a, cap, by simp [hts], by simp; omega, by omega, fun i hi' => ?_⟩, fun t ht => ?_⟩
    · have hil : i < ts.length := by simpa using hi'
      obtain ⟨_, c1, c2⟩ := hc i hil
      obtain ⟨b, o, sp⟩ := a
      have hsp : sp = none := by
        have := World.cell?_spot (hc 0 (by omega)).2.1
        rw [Nat.zero_mul] at this
        simpa [Addr.add] using this
      subst hsp
      have e : (⟨b, o, none⟩ : Addr).add (i * 2) = ⟨b, o + i * 2, none⟩ := by by_cases hz : i * 2 = 0 <;> simp [Addr.add, hz]
      rw [e] at c1 c2
      have e2 : (⟨b, o + i * 2, none⟩ : Addr).add 1 = ⟨b, o + i * 2 + 1, none⟩ := by simp [Addr.add]
      rw [e2] at c2
      refine ⟨b, o, rfl, cell_lt'' c1, fun j u hu => ?_⟩
      rcases j with _ | _ | j
      · simp [LT, TagL.of] at hu; subst hu; exact c1
      · simp [LT, TagL.of] at hu; subst hu; exact c2
      · simp [LT] at hu
    · obtain ⟨x, hx, rfl⟩ := List.mem_map.1 ht
      obtain ⟨i, hi', rfl⟩ := List.getElem_of_mem hx
      have := (hc i hi').1
      have h3 : (TagL.of ts[i]).1.length = ts[i].1.size := by simp [TagL.of, lsize]
      omega
set_option maxRecDepth 100000 in
/-- Conditions that come in. -/
theorem open_cond_arg {H : Type} {enc : TypeId × Value → H} {w : World} {base : Nat} {v : Value} {d : DataW H} {p : List MemPlace} (hv : Value.okWide Tryd.prog w .any base 29 v)
    (h : DataW.Trod enc Tryd.prog w 0 (fun _ => true) true 29 v d p) (hw : ∀ n ∈ d.weights Tryd.prog 29, n ≤ reachBytes) : ∃ (v1 v2 : Value) (ms ns : List TagL) (am an : Bool) (si un : Int) (x : ByteArray) (rb : Bool), v = .agg #[v1, v2, .bool am, .bool an, .int .i64 si, .int .i64 un, .string x, .bool rb] ∧ RdL LT w w.heap.size v1 ms ∧ RdL LT w w.heap.size v2 ns ∧ (∀ t ∈ ms, t.1.length ≤ 9223372036854775807) ∧ (∀ t ∈ ns, t.1.length ≤ 9223372036854775807) ∧ x.size ≤ 140737488351232 := by
  obtain ⟨cs, rfl, hs⟩ := okWide_struct Tryd.underlying29 hv
  obtain ⟨fuel, hf⟩ := h
  have hf' : DataW.trod enc Tryd.prog w 0 (fun _ => true) true fuel 29 cs.toList = some (d, p) := by simpa [Value.cells] using hf
  have hl8 := cells_len Tryd.underlying29 hf' 8 cellsCond
  obtain ⟨xs, n, _, hx, _, hlen, hg⟩ := DataW.trod_struct Tryd.underlying29 hf'
  have hl7 : xs.length = 7 := hlen
  match hcs : cs.toList, hl8 with
  | [c0, c1, c2, c3, c4, c5, c6, c7], _ =>
    match xs, hl7 with
    | [x0, x1, x2, x3, x4, x5, x6], _ =>
      have hwd : ∀ n ∈ (DataW.agg ([x0, x1, x2, x3, x4, x5, x6].map (·.1))).weights Tryd.prog 29, n ≤ reachBytes := by
        have := (Prod.mk.inj hx).1
        rw [this] at hw
        exact hw
      simp only [DataW.weights, Tryd.underlying29, DataW.weightsEach, List.map_cons, List.map_nil, List.mem_append, List.toList_toArray] at hwd
      have g0 := hg 0 _ rfl; have g1 := hg 1 _ rfl; have g2 := hg 2 _ rfl; have g3 := hg 3 _ rfl; have g4 := hg 4 _ rfl; have g5 := hg 5 _ rfl; have g6 := hg 6 _ rfl
      rw [hcs] at g0 g1 g2 g3 g4 g5 g6
      obtain ⟨m, ts, e0, r0, z0⟩ := open_tags_in (show DataW.trod enc Tryd.prog w 0 (fun _ => true) true n 25 [c0] = some x0 by simpa [cellsTags] using g0) (fun n hn => hwd n (.inl hn))
      obtain ⟨m', us, e1, r1, z1⟩ := open_tags_in (show DataW.trod enc Tryd.prog w 0 (fun _ => true) true n 25 [c1] = some x1 by simpa [cellsTags] using g1) (fun n hn => hwd n (.inr (.inl hn)))
      obtain ⟨am, e2, _⟩ := DataW.trod_bool Tryd.underlying4 (show DataW.trod enc Tryd.prog w 0 (fun _ => true) true n 4 [c2] = some x2 by simpa [cellsTags, cellsBool] using g2)
      obtain ⟨an, e3, _⟩ := DataW.trod_bool Tryd.underlying4 (show DataW.trod enc Tryd.prog w 0 (fun _ => true) true n 4 [c3] = some x3 by simpa [cellsTags, cellsBool] using g3)
      obtain ⟨si, e4, _, w4⟩ := DataW.trod_int Tryd.underlying2 (show DataW.trod enc Tryd.prog w 0 (fun _ => true) true n 2 [c4] = some x4 by simpa [cellsTags, cellsBool, cellsI64] using g4)
      obtain ⟨un, e5, _, w5⟩ := DataW.trod_int Tryd.underlying2 (show DataW.trod enc Tryd.prog w 0 (fun _ => true) true n 2 [c5] = some x5 by simpa [cellsTags, cellsBool, cellsI64] using g5)
      obtain ⟨rt, rk, e6, _, w6⟩ := open_tag_sized (show DataW.trod enc Tryd.prog w 0 (fun _ => true) true n 27 [c6, c7] = some x6 by simpa [cellsTags, cellsBool, cellsI64, cellsTag] using g6)
      have hz := w6 (fun n hn => hwd n (.inr (.inr (.inr (.inr (.inr (.inr (.inl hn))))))))
      simp at e0 e1 e2 e3 e4 e5 e6
      obtain ⟨e6, e7⟩ := e6
      subst e0 e1 e2 e3 e4 e5 e6 e7
      refine ⟨_, _, ts, us, am, an, si, un, rt, rk, ?_, r0, r1, z0, z1, hz⟩
      congr 1
      apply Array.toList_inj.1
      exact hcs

set_option maxRecDepth 100000 in
set_option maxHeartbeats 32000000 in
theorem walk (v1 v2 : Value) (ms ns : List TagL) (am an : Bool) (si un : Int) (x : ByteArray) (rb : Bool) (w : World) (h1 : RdL LT w w.heap.size v1 ms) (h2 : RdL LT w w.heap.size v2 ns) (z1 : ∀ t ∈ ms, t.1.length ≤ 9223372036854775807) (z2 : ∀ t ∈ ns, t.1.length ≤ 9223372036854775807) (hx : x.size ≤ 9223372036854775807) (hxs : x.size ≤ 140737488351232) : Calls Tryd.prog 5 #[.agg #[v1, v2, .bool am, .bool an, .int .i64 si, .int .i64 un, .string x, .bool rb]] w (BoolOk true w) := by
  obtain ⟨A1, c1, rfl, _, _⟩ := h1.form
  obtain ⟨A2, c2, rfl, _, _⟩ := h2.form
  have H10 := hide h1
  have H20 := hide h2
  clear h1 h2
  go_enter Tryd.func5, Tryd.ntmps5
  go_upto_region 1 with fail
  obtain ⟨w1, hw1⟩ : ∃ w1 : World, w1 = (w).alloc (.cells #[.slice A1 ms.length c1, .slice A2 ns.length c2, .bool am, .bool an, .int .i64 si, .int .i64 un, .string x, .bool rb] 29) := ⟨_, rfl⟩
  rw [← hw1]
  have hB1 : Below w.heap.size w w1 := by rw [hw1]; exact ((Below.refl _ _).alloc (Nat.le_refl _) _)
  have T : Blk w1 (w.heap.size) 29 #[.slice A1 ms.length c1, .slice A2 ns.length c2, .bool am, .bool an, .int .i64 si, .int .i64 un, .string x, .bool rb] := by rw [hw1]; exact (Blk.new _ _ _)
  clear hw1
  have cT := T.cell
  go_wp2_with fail
  refine (few8_any _ _ ms ns am an si un x rb _ ((H10.out.below hB1).mono hB1.size) ((H20.out.below hB1).mono hB1.size) z1 z2 hx hxs).mono ?_
  rintro e w2 ⟨b, rfl, hb2⟩
  have hB2 := hB1.trans (hb2.mono hB1.size)
  replace T := T.below hb2 T.lt
  clear cT hb2
  have cT := T.cell
  cases b
  · go_wp2_with fail
    refine (awake8 _).mono ?_
    rintro e w3 ⟨rfl, hb3⟩
    have hB3 := hB2.trans (hb3.mono hB2.size)
    go_wp2_with fail
    go_ret
    exact ⟨rfl, hB3⟩
  · cases hm : rightC ms ns am an si un x
    · have HM := hide hm
      clear hm
      go_wp2_with fail
      refine (cfields_no _ _ ms ns am an si un x rb _ ((H10.out.below hB2).mono hB2.size) ((H20.out.below hB2).mono hB2.size) z1 z2 hx HM.out).mono ?_
      rintro e w3 ⟨rfl, hb3⟩
      have hB3 := hB2.trans (hb3.mono hB2.size)
      replace T := T.below hb3 T.lt
      clear cT hb3
      have cT := T.cell
      go_upto_region 4 with fail
      have qT : ∀ (y : Bel w3.heap.size w3) i, y.w.cell? ⟨w.heap.size, i, none⟩ = (#[.slice A1 ms.length c1, .slice A2 ns.length c2, .bool am, .bool an, .int .i64 si, .int .i64 un, .string x, .bool rb] : Array Value)[i]? := fun y i => (T.below y.h T.lt).cell i
      have uP := hide (show ∀ y : Bel w3.heap.size w3, Calls Tryd.prog 14 #[.agg #[.slice A1 ms.length c1, .slice A2 ns.length c2, .bool am, .bool an, .int .i64 si, .int .i64 un, .string x, .bool rb]] y.w (BoolOk false y.w) from fun y => HM.out ▸ cright_any _ _ ms ns am an si un x rb _ ((((H10.out.below hB3).mono hB3.size).below y.h).mono y.h.size) ((((H20.out.below hB3).mono hB3.size).below y.h).mono y.h.size) z1 z2 hx)
      have uR := hide (show ∀ y : Bel w3.heap.size w3, Calls Tryd.prog 15 #[.agg #[.slice A1 ms.length c1, .slice A2 ns.length c2, .bool am, .bool an, .int .i64 si, .int .i64 un, .string x, .bool rb]] y.w (BoolOk false y.w) from fun y => HM.out ▸ rright8_any _ _ ms ns am an si un x rb _ ((((H10.out.below hB3).mono hB3.size).below y.h).mono y.h.size) ((((H20.out.below hB3).mono hB3.size).below y.h).mono y.h.size) z1 z2 hx)
      clear cT
      refine wp_region_bel w3.heap.size (by kernel_rfl) (by kernel_rfl) ?_
      repeat (go_big_quiet_step ((first | (go_at_call 14; exact bel_call (Nat.le_refl _) (uP.out _)) | (go_at_call 15; exact bel_call (Nat.le_refl _) (uR.out _)))))
      refine wpQuiet_nil ?_
      rintro w4 ⟨⟨_, hb4⟩, rfl⟩
      have hB4 := hB3.trans (hb4.mono hB3.size)
      replace T := T.below hb4 T.lt
      clear qT uP uR
      have cT := T.cell
      clear hb4
      go_wp2_with fail
      refine (rright8_any _ _ ms ns am an si un x rb _ ((H10.out.below hB4).mono hB4.size) ((H20.out.below hB4).mono hB4.size) z1 z2 hx).mono ?_
      rintro e w5 ⟨rfl, hb5⟩
      have hB5 := hB4.trans (hb5.mono hB4.size)
      rw [HM.out]
      clear hb5
      go_wp2_with fail
      refine (awake8 _).mono ?_
      rintro e w6 ⟨rfl, hb6⟩
      have hB6 := hB5.trans (hb6.mono hB5.size)
      go_wp2_with fail
      go_ret
      exact ⟨rfl, hB6⟩
    · have HM := hide hm
      clear hm
      go_wp2_with fail
      refine (cfields_yes _ _ ms ns am an si un x rb _ ((H10.out.below hB2).mono hB2.size) ((H20.out.below hB2).mono hB2.size) z1 z2 hx HM.out).mono ?_
      rintro e w3 ⟨v3, rfl, du, ds, hdu, hds, O, hb3⟩
      have hB3 := hB2.trans (hb3.mono hB2.size)
      replace T := T.below hb3 T.lt
      clear cT hb3
      have cT := T.cell
      obtain ⟨A3, k3, hv3, _, _⟩ := O.rd.form
      subst hv3
      go_upto_region 4 with fail
      have qT : ∀ (y : Bel w3.heap.size w3) i, y.w.cell? ⟨w.heap.size, i, none⟩ = (#[.slice A1 ms.length c1, .slice A2 ns.length c2, .bool am, .bool an, .int .i64 si, .int .i64 un, .string x, .bool rb] : Array Value)[i]? := fun y i => (T.below y.h T.lt).cell i
      have uP := hide (show ∀ y : Bel w3.heap.size w3, Calls Tryd.prog 14 #[.agg #[.slice A1 ms.length c1, .slice A2 ns.length c2, .bool am, .bool an, .int .i64 si, .int .i64 un, .string x, .bool rb]] y.w (BoolOk true y.w) from fun y => HM.out ▸ cright_any _ _ ms ns am an si un x rb _ ((((H10.out.below hB3).mono hB3.size).below y.h).mono y.h.size) ((((H20.out.below hB3).mono hB3.size).below y.h).mono y.h.size) z1 z2 hx)
      have uR := hide (show ∀ y : Bel w3.heap.size w3, Calls Tryd.prog 15 #[.agg #[.slice A1 ms.length c1, .slice A2 ns.length c2, .bool am, .bool an, .int .i64 si, .int .i64 un, .string x, .bool rb]] y.w (BoolOk true y.w) from fun y => HM.out ▸ rright8_any _ _ ms ns am an si un x rb _ ((((H10.out.below hB3).mono hB3.size).below y.h).mono y.h.size) ((((H20.out.below hB3).mono hB3.size).below y.h).mono y.h.size) z1 z2 hx)
      clear cT
      refine wp_region_bel w3.heap.size (by kernel_rfl) (by kernel_rfl) ?_
      repeat (go_big_quiet_step ((first | (go_at_call 14; exact bel_call (Nat.le_refl _) (uP.out _)) | (go_at_call 15; exact bel_call (Nat.le_refl _) (uR.out _)))))
      refine wpQuiet_nil ?_
      rintro w4 ⟨⟨_, hb4⟩, rfl⟩
      have hB4 := hB3.trans (hb4.mono hB3.size)
      replace T := T.below hb4 T.lt
      clear qT uP uR
      have cT := T.cell
      replace O := O.below hb4 (Nat.le_refl _)
      clear hb4
      go_wp2_with fail
      refine (rright8_any _ _ ms ns am an si un x rb _ ((H10.out.below hB4).mono hB4.size) ((H20.out.below hB4).mono hB4.size) z1 z2 hx).mono ?_
      rintro e w5 ⟨rfl, hb5⟩
      have hB5 := hB4.trans (hb5.mono hB4.size)
      rw [HM.out]
      replace T := T.below hb5 T.lt
      replace O := O.below hb5 (Nat.le_refl _)
      clear cT hb5
      have cT := T.cell
      go_wp2_with fail
      refine (rfields8_yes _ _ ms ns am an si un x rb _ ((H10.out.below hB5).mono hB5.size) ((H20.out.below hB5).mono hB5.size) z1 z2 hx HM.out).mono ?_
      rintro e w6 ⟨v5, rfl, du2, ds2, hdu2, hds2, U, hb6⟩
      have hB6 := hB5.trans (hb6.mono hB5.size)
      replace T := T.below hb6 T.lt
      replace O := O.below hb6 (Nat.le_refl _)
      clear cT hb6
      have cT := T.cell
      rw [fields_one hdu hds hdu2 hds2] at U
      clear hdu2 hds2
      have hsm := fields_small (rb := rb) HM.out hdu hds
      obtain ⟨fl, hfl⟩ : ∃ l, l = fieldsC ms ns am an si un x rb du ds := ⟨_, rfl⟩
      rw [← hfl] at O U hsm ⊢
      have HFL := hide hfl
      clear hfl
      obtain ⟨hfl5, hfls⟩ := hsm
      have HO := hide O
      have HU := hide U
      clear O U
      obtain ⟨A4, k4, hv4, _, _⟩ := HU.out.rd.form
      subst hv4
      go_wp2_with fail
      go_loopw [6, 49] (fun _ c49 wr => ∃ k : Nat, k ≤ fl.length ∧ c49 = .int .i64 (k : Int) ∧ Below w6.heap.size w6 wr) (fun _ c49 _ => fl.length - (intOf c49).toNat)
      case atStart => exact ⟨0, Nat.zero_le _, rfl, Below.refl _ _⟩
      case round =>
        obtain ⟨k, hk, rfl, hL⟩ := hrel
        by_cases hlt : k < fl.length
        · obtain ⟨b1, off1, hA1, hb1, e1, e2⟩ := HO.out.rd.field k hlt
          subst hA1
          obtain ⟨b2, off2, hA2, hb2, e3, e4⟩ := HU.out.rd.field k hlt
          subst hA2
          obtain ⟨y, hy⟩ : ∃ y : ByteArray, y = ⟨fl[k].1.toArray⟩ := ⟨_, rfl⟩
          obtain ⟨z, hz⟩ : ∃ y : ByteArray, y = ⟨fl[k].2.toArray⟩ := ⟨_, rfl⟩
          rw [← hy] at e1 e3
          rw [← hz] at e2 e4
          have m1 : ∀ n, (wr.drewN n).cell? ⟨b1, off1 + k * 2, none⟩ = some (.string y) := fun n => (hL.cell hb1).trans e1
          have m2 : ∀ n, (wr.drewN n).cell? ⟨b1, off1 + k * 2 + 1, none⟩ = some (.string z) := fun n => (hL.cell hb1).trans e2
          have m3 : ∀ n, (wr.drewN n).cell? ⟨b2, off2 + k * 2, none⟩ = some (.string y) := fun n => (hL.cell hb2).trans e3
          have m4 : ∀ n, (wr.drewN n).cell? ⟨b2, off2 + k * 2 + 1, none⟩ = some (.string z) := fun n => (hL.cell hb2).trans e4
          have g1 : (0 : Int) ≤ (k : Int) := by omega
          have g2 : (k : Int) < (fl.length : Int) := by omega
          have gy : (y.toList == y.toList) = true := beq_self_eq_true _
          have gz : (z.toList == z.toList) = true := beq_self_eq_true _
          clear e1 e2 e3 e4 hy hz
          go_wp2_with fail
          go_quiet (fail)
          go_wp2_with fail
          go_roundw
          case rel => exact ⟨k + 1, by omega, by go_num, below_drewN hL _⟩
          case measure => simp [intOf] <;> omega
        · clear hk
          have hB7 := hB6.trans (hL.mono hB6.size)
          obtain ⟨w7, hw7⟩ : ∃ W : World, W = wr := ⟨_, rfl⟩
          rw [← hw7] at hL hB7 ⊢
          clear hw7
          replace T := T.below hL T.lt
          clear cT
          have cT := T.cell
          have RO := (HO.out.rd.below hL).mono hL.size
          go_wp2_with fail
          refine (cparse8_any _ fl _ RO (fun f hf => by have := sumF_mem hf; omega) (by omega) (by omega)).mono ?_
          rintro e w8 ⟨cv, c, n, rfl, hi, ⟨p, q, y, rfl, hy, hp, hq⟩, hb8⟩
          have hB8 := hB7.trans (hb8.mono hB7.size)
          obtain ⟨rfl, rfl⟩ := back_of HM.out hdu hds (HFL.out ▸ hi)
          obtain rfl : y = x := by apply ByteArray.ext; apply Array.toList_inj.1; exact hy
          replace T := T.below hb8 T.lt
          clear cT hb8 hi RO
          obtain ⟨Ap, kp, hp', _, _⟩ := hp.form
          subst hp'
          obtain ⟨Aq, kq, hq', _, _⟩ := hq.form
          subst hq'
          dsimp only at hp hq ⊢
          go_upto_region 18 with fail
          obtain ⟨w9, hw9⟩ : ∃ W : World, W = w8.alloc (.cells #[.slice Ap ms.length kp, .slice Aq ns.length kq, .bool am, .bool an, .int .i64 si, .int .i64 un, .string y, .bool rb] 29) := ⟨_, rfl⟩
          first | rw [← hw9] | skip
          have hb9 : Below w8.heap.size w8 w9 := by rw [hw9]; exact (Below.refl _ _).alloc (Nat.le_refl _) _
          have S : Blk w9 w8.heap.size 29 #[.slice Ap ms.length kp, .slice Aq ns.length kq, .bool am, .bool an, .int .i64 si, .int .i64 un, .string y, .bool rb] := by rw [hw9]; exact Blk.new _ _ _
          replace T := T.below hb9 T.lt
          have hB9 := hB8.trans (hb9.mono hB8.size)
          have hp9 := (hp.below hb9).mono hb9.size
          have hq9 := (hq.below hb9).mono hb9.size
          clear hw9 hb9 hp hq
          have cT := T.cell
          have cS := S.cell
          go_wp2_with fail
          refine (same8_self _ _ _ _ ms ns am an si un y rb w9 hp9 hq9 ((H10.out.below hB9).mono hB9.size) ((H20.out.below hB9).mono hB9.size)).mono ?_
          rintro e w10 ⟨rfl, hb10⟩
          have hB10 := hB9.trans (hb10.mono hB9.size)
          go_wp2_with fail
          refine (awake8 _).mono ?_
          rintro e w11 ⟨rfl, hb11⟩
          have hB11 := hB10.trans (hb11.mono hB10.size)
          go_wp2_with fail
          go_ret
          exact ⟨rfl, hB11⟩

theorem ps : ∀ t ∈ Tryd.f5.params.toList, Tryd.prog.readableRec t = true ∧ t < Tryd.prog.types.size := by
  rw [Tryd.params5]
  intro t ht
  obtain rfl : t = _ := by simpa using ht
  exact ⟨by kernel_rfl, of_decide_eq_true (by kernel_rfl)⟩

set_option maxRecDepth 100000 in
theorem lifted (os : Os) (started : os.Started) (H : Type) (enc : TypeId × Value → H) :
    ReturnsInHanded {} Tryd.checked os 5 .any (fun w args => (Rows.condFieldsSpec.pre enc Tryd.prog Tryd.f5 [] false w args ∧ laidMetH Tryd.prog laidL w) ∧ sizedMet enc Tryd.prog Tryd.f5 (OpenSpec.ofChange Rows.condFieldsSpec) false w args) (Rows.condFieldsSpec.post enc Tryd.prog Tryd.f5 false true false false) := by
  refine returnsInHanded_of_change_and (C := Tryd.checked) (X := fun w _ => laidMetH Tryd.prog laidL w) (fun _ _ _ hh h => h.of_heap hh) law_own started (by kernel_rfl) Tryd.func5
    (ChangeSpec.witness_shaped (enc := enc) (C := Tryd.checked) (os := os) (X := fun w _ => laidMetH Tryd.prog laidL w) false (World.laidAll Tryd.prog os laidL) #[.agg #[.slice none 0 0, .slice none 0 0, .bool false, .bool false, .int .i64 0, .int .i64 0, .string ByteArray.empty, .bool false]] 8 (World.laidAll_os _ _ _) (World.shaped_of_ZipB (by kernel_rfl) (by kernel_rfl)) (by kernel_rfl) (by kernel_rfl) (by kernel_rfl) (by rw [MakeChecks.laidMetH_plain _ _ _ (by kernel_rfl)]; exact laidMet_laidAll _ (by kernel_rfl) (by kernel_rfl))) ?_
  intro W base args ds gs before hval0 hW _ hsz hL _
  have hval : ∀ (j : Nat) t v, Tryd.f5.params[j]? = some t → args[j]? = some v → Value.okWide Tryd.prog W .any base t v := hval0
  have hW' := hW
  have hlt : ∀ p ∈ before, p.block < W.heap.size := fun p hp => hW.lt p hp
  obtain ⟨p, q, hA0, hV, rfl, hfz, hnd⟩ := hW
  have hA : DataW.TrodAll enc Tryd.prog W 0 (fun _ => true) true Tryd.f5.params.toList args.toList ds p := hA0
  rw [Tryd.params5] at hA hval
  obtain ⟨v0, vs0, d0, ds0, p0, q0, hargs, rfl, rfl, h0, r0⟩ := trodAll_cons hA
  obtain ⟨rfl, rfl, rfl⟩ := trodAll_nil r0
  obtain rfl : args = #[v0] := by cases args; simp_all
  obtain ⟨rfl, rfl⟩ := trodVars_none hV
  obtain ⟨v1, v2, ms, ns, am, an, si, un, x, rb, rfl, hr1, hr2, hz1, hz2, hxs⟩ := open_cond_arg (hval 0 29 v0 rfl rfl) h0 (fun n hn => by have := List.all_eq_true.1 hsz n (DataW.weights_mem_each (j := 0) (by rw [Tryd.params5]; rfl) rfl n hn); simpa using this)
  clear hA0 hval0
  refine (walk v1 v2 ms ns am an si un x rb W hr1 hr2 hz1 hz2 (by omega) hxs).mono fun e W' ⟨he, hb⟩ => ?_
  subst he
  exact ⟨_, rfl, law_close hW' rfl rfl rfl ps hb⟩

theorem row : Rows.CondFieldsSaid :=
  OpenClaim.holds_of_wide 5 Tryd.f5 rfl rfl rfl rfl rfl rfl rfl ⟨rfl, rfl, rfl, rfl, rfl⟩ rfl rfl rfl rfl rfl (by kernel_rfl) Tryd.func5 (by kernel_rfl)
    (of_decide_eq_true (by kernel_rfl)) (by unfold Func.isWrapper; first | (rw [if_pos (by decide +kernel)]; kernel_rfl) | (rw [if_neg (by decide +kernel)]; exact ⟨rfl, rfl⟩))
    (fun os started H enc _ => lifted os started H enc)
theorem proved : Rows.CondFieldsCardSaid :=
  Claim7.holds_tied_plain_at .later [] [.data, .pinned] true (true, "6ae73031020a7ecdf35eb6afe271d5ad3d756c5236a3ab680dcad54f85cf945c") false
    row (fun _ h => by cases h) (by kernel_rfl) (fun _ h => by cases h) condFields_row_tie rfl ⟨rfl, rfl⟩ (by kernel_rfl) rfl
    (fun f fn hf hfn => by
      obtain rfl : f = 5 := Option.some.inj ((show Tryd.prog.funcNamed "mandoline/mandolinelaw08.CondFields" = some 5 by kernel_rfl).symm.trans hf) |>.symm
      obtain rfl : fn = Tryd.f5 := (Option.some.inj (Tryd.func5.symm.trans hfn)).symm
      exact ⟨by kernel_rfl, fun j t ht => by
        rw [Tryd.params5] at ht
        have hm : t ∈ [29] := by simpa using Array.mem_of_getElem? ht
        have hall : ([29].all fun u => !Tryd.prog.wantsStandIn u) = true := by kernel_rfl
        exact (show Tryd.prog.wantsStandIn t = false by simpa using List.all_eq_true.1 hall t hm)⟩)
    (by kernel_rfl)
#print axioms proved

end Go.Proofs.YtkmheoolekookaaDoor.condFields
