/-
  The bytes of which a thing is told.
-/
import Derived.RangeFuncNested
import Derived.RangeFuncBound
import Derived.RangeFuncCalls
import Derived.RangeFuncLeaves
import Derived.Shelf.Abstract
import Derived.Shelf.RegionOpen
import Derived.WalkKit
import Derived.OwnWalkIn
import Derived.TacticsInMore
import Derived.LoopNIn
import Derived.LoopIn
import Derived.Test.YtfcbmajogmojbaaDoorMapD
import Derived.Test.YtfcbmajogmojbaaDoorRngH
namespace Go.Proofs.YtfcbmajogmojbaaDoor
open Go.RowKit Go.Shelf
set_option linter.unusedVariables false
set_option linter.unusedSimpArgs false

attribute [local go_sem] Oper.semAt_some

theorem blk_own {A B : World} {row : Option Nat} {g : Nat} {t : TypeId} {cs : Array Value} (h : Blk A g t cs) (hg : A.grownBy B row) (hr : ∀ r, row = some r → ∃ o : Obj, A.heap[r]? = some o ∧ o.isCells = false) : Blk B g t cs :=
  (hg.block g h.lt (fun e => by
    obtain ⟨o, ho, hc⟩ := hr g e.symm
    rw [show A.heap[g]? = _ from h] at ho
    cases ho
    cases hc)).trans h
theorem ownL_own {α : Type} {L : Lay α} {A B : World} {row : Option Nat} {C : Nat} {v : Value} {l : List α} (h : OwnL L C A v l) (hg : A.grownBy B row) (hr : ∀ r, row = some r → ∃ o : Obj, A.heap[r]? = some o ∧ o.isCells = false) : OwnL L C B v l := by
  refine h.kept hg ?_
  rcases h.2 with ⟨rfl, _⟩ | ⟨g, cap, cur, rfl, _, hh, _⟩
  · exact .inl rfl
  · refine .inr fun e => ?_
    obtain ⟨o, ho, hc⟩ := hr g e.symm
    rw [hh] at ho
    cases ho
    cases hc
theorem keeps_own {α : Type} {L : Lay α} {A B : World} {C : Nat} {v : Value} {l : List α} (h : OwnL L C A v l) (hg : A.grownBy B v.ownBlock) : KeepsOthers A B :=
  KeepsOthers.of_grownBy hg (fun j o e ho => by
    rcases h.2 with ⟨rfl, _⟩ | ⟨g, cap, cur, rfl, _, hh, _⟩
    · cases e
    · have : g = j := by simpa [Value.ownBlock] using e
      subst this
      rw [hh] at ho
      cases ho
      rfl)
theorem OwnL.nblk {α : Type} {L : Lay α} {A : World} {C g : Nat} {t : TypeId} {cs : Array Value} {v : Value} {l : List α} (h : OwnL L C A v l) (k : Blk A g t cs) (ht : L.e ≠ t) : v.ownBlock ≠ some g := by
  rcases h.2 with ⟨rfl, _⟩ | ⟨g', cap, cur, rfl, _, hh, _⟩
  · simp [Value.ownBlock]
  · intro e
    have : g' = g := by simpa [Value.ownBlock] using e
    subst this
    unfold Blk at k
    rw [k] at hh
    cases hh
    exact ht rfl
theorem exb_own {A B : World} {b n : Nat} {row : Option Nat} (hg : A.grownBy B row) (hle : ∀ k, row = some k → n ≤ k) (hn : n ≤ A.heap.size) : Exb b n A B :=
  ⟨hg.size, fun j hj _ => hg.block j (by omega) (by first | (intro e; have := hle j e; omega) | (intro e; have := hle j e.symm; omega))⟩
theorem RdL.keep {α : Type} {L : Lay α} {w w' : World} {B B' : Nat} {v : Value} {l : List α} (h : RdL L w B v l) (hB : B ≤ B') (hk : ∀ b o u, b < B → (∃ (i j : Nat) (hi : i < l.length), (L.enc (l[i]'hi))[j]? = some u) → w.cell? ⟨b, o, none⟩ = some u → w'.cell? ⟨b, o, none⟩ = some u) : RdL L w' B' v l := by
  obtain ⟨h0, A, c, hv, h2, h3, hc⟩ := h
  refine ⟨h0, A, c, hv, h2, h3, fun i hi => ?_⟩
  obtain ⟨b, off, e, hlt, c1⟩ := hc i hi
  exact ⟨b, off, e, by omega, fun j u hu => hk _ _ _ hlt ⟨i, j, hi, hu⟩ (c1 j u hu)⟩
/-- A store into a set's own cell leaves spans. -/
theorem rd_setcell {w : World} {g : Nat} {t : TypeId} {V V' : Value} {v : Value} {l : List Sp} (h : RdL LSp w w.heap.size v l) (hg : Blk w g t #[V]) (hV : ∀ z, V ≠ .int .i64 z) : RdL LSp (w.setCell ⟨g, 0, none⟩ V') w.heap.size v l := by
  refine RdL.keep h (Nat.le_refl _) fun b o u hb ⟨i, j, hi, hu⟩ hc => ?_
  by_cases hbg : b = g
  · subst hbg
    rw [hg.cell] at hc
    have hz : ∃ z, u = .int .i64 z := by
      have : j < 2 := by
        have := (List.getElem?_eq_some_iff.1 hu).1
        rw [LSp.len] at this; exact this
      have hj : j = 0 ∨ j = 1 := by omega
      rcases hj with rfl | rfl
      · exact ⟨_, (Option.some.inj hu).symm⟩
      · exact ⟨_, (Option.some.inj hu).symm⟩
    obtain ⟨z, rfl⟩ := hz
    rcases o with _ | o
    · have := Option.some.inj hc
      exact absurd this (hV z)
    · simp at hc
  · exact (World.cell?_setCell_other w _ _ _ (fun e => hbg (by cases e; rfl))).trans hc
theorem ofR_snoc (v : Int) (pre : List Rn) (x : Rn) : ofR v (pre ++ [x]) = ofR v pre ++ (if x.2 == v then [x.1] else []) := by
  unfold ofR
  rw [List.filter_append, List.map_append]
  by_cases h : (x.2 == v) = true
  · rw [if_pos h, List.filter_cons, if_pos h]; rfl
  · rw [if_neg h, List.filter_cons, if_neg h]; rfl
theorem ofR_len (v : Int) (l : List Rn) : (ofR v l).length ≤ l.length := by unfold ofR; rw [List.length_map]; exact List.length_filter_le _ _
/-- append in a round, as an operation. -/
theorem wpListIn_appL {α : Type} (L : Lay α) {F : Fence} {n : Nat} {ops : Array Oper} {rest : List Oper} {o : Oper} {a : Act} {Q : Exit → Act → World → Prop} {w : World} (hgd : o.guard = none) (s x : Operand) (t1 t2 : TypeId)
    (ho : o.op = .call { callee := .builtin .append, args := #[s, x], argTypes := #[t1, t2] }) (ht1 : t1 = L.t) (ht2 : t2 = L.t)
    (B : Nat) (v : Value) (l : List α) (hs : a.eval s = v) (hown : OwnL L B w v l) (hB : B ≤ w.heap.size)
    (u : Value) (ns : List α) (C : Nat) (hx : a.eval x = u) (hu : RdL L w C u ns)
    (hL : L.bytes ≤ 1024) (h63 : l.length + ns.length ≤ 1000000000)
    (h : ∀ v' w', OwnL L B w' v' (l ++ ns) → w.grownBy w' v.ownBlock → wpListIn F n Tryd.prog ops Q rest (a.put o.dst v') w') : wpListIn F n Tryd.prog ops Q (o :: rest) a w := by
  subst ht1 ht2
  obtain ⟨v', w', hrun, h1, h2, _⟩ := run_appL o.type B v l hown hB u ns C hu hL h63
  refine wpListIn_plain hgd fun K hK' => ?_
  unfold Oper.wpIn
  refine ⟨?_, ?_⟩
  · simp [Oper.about, ho, resolve, Target.leads, Sem.run_pure]
  · rw [Oper.semAt_plain F _ _ (by rw [ho]; intro c hc'; cases hc')]
    simp [execOp, ho, resolve, invoke, builtin, hs, hx, hrun, Result.andThen]
    exact hK' _ _ (h v' w' h1 h2)

theorem leaveS {n D : Nat} {w W : World} {s : List Sp} {g : Nat} {A9 : Option Addr} {k9 : Nat} {tm : Array Value} (ht : tm[4]?.getD undef = .pointer (some ⟨g, 0, none⟩)) (hsz : W.heap.size ≤ W.heap.size) (R2 : Blk W g 28 #[.slice A9 s.length k9]) (R3 : RdL LSp W W.heap.size (.slice A9 s.length k9) s)
    (hK : W.heap[D]? = some (.deferred (some []))) (hD : w.heap.size ≤ D) (hB : Below w.heap.size w W) :
    LeavesInM Fence.wide n Tryd.prog Tryd.f12 tm (SetOk s w) [{ target := .collected D, args := #[] }] .returning W := by
  have S2 : Blk (W.putObj D (.deferred none)) g 28 #[.slice A9 s.length k9] := blk_own R2 (grownBy_putObj' W D _) (fun r e => by cases e; exact ⟨_, hK, rfl⟩)
  have SB : Below w.heap.size w (W.putObj D (.deferred none)) := hB.trans (belowK_b (w := w) (Nat.le_refl _) W D _ _ hD hK rfl rfl)
  have S3 : RdL LSp (W.putObj D (.deferred none)) (W.putObj D (.deferred none)).heap.size (.slice A9 s.length k9) s := by
    refine RdL.keep R3 (by simp) fun b o u hb _ hc => ?_
    exact cell_kept hc (grownBy_putObj' W D _) (fun r e => by cases e; exact ⟨_, hK, rfl⟩)
  have c2 := S2.cell 0
  refine ⟨(by simp), .inl ⟨_, _, rfl, run_takeDeferred hK, ?_⟩⟩
  refine ⟨.agg #[.slice A9 s.length k9], ?_, _, rfl, S3, SB⟩
  have f2 := S2.frozen 0
  simp [results, Tryd.f12, go_sem, ht, c2]

set_option maxRecDepth 100000 in
set_option maxHeartbeats 4000000 in
theorem mof_any (gm : Nat) (A : Option Addr) (c : Nat) (rs : List Rn) (v : Int) (w : World) (hG : Blk w gm 58 #[.slice A rs.length c]) (hr : RdL LRn w w.heap.size (.slice A rs.length c) rs) (hok : ∀ r ∈ rs, okS r.1) (hvl : rs.length ≤ 1000) : Calls Tryd.prog 12 #[.pointer (some ⟨gm, 0, none⟩), .int .u8 v] w (SetOk (ofL (ofR v rs)) w) := by
  refine (callsIn_wide (n := 5)).1 ?_
  refine callsIn_of_wp_marks Tryd.func12 rfl trivial ?_ rfl
  simp only [Tryd.ntmps12, List.size_toArray, List.length_cons, List.length_nil, Nat.reduceAdd, Nat.reduceSub, Array.replicate_succ, Array.replicate_zero, List.push_toArray, List.append_toArray, List.nil_append, List.cons_append]
  gi_wp2
  refine ⟨trivial, ?_⟩
  refine (callsIn_wide.2 (all_any gm A rs.length c _ (((hG.alloc _).alloc _).alloc _))).mono ?_
  rintro e w1 ⟨rfl, hw1⟩
  have QV : Blk w1 w.heap.size 5 #[.int .u8 v] := by rw [hw1]; exact ((((Blk.new _ _ _).alloc _).alloc _).alloc _).alloc _
  have QR : Blk w1 (w.heap.size + 1) 28 #[.slice none 0 0] := by rw [hw1]; exact (((Blk.new' (by simp)).alloc _).alloc _).alloc _
  have QL : Blk w1 (w.heap.size + 1 + 1) 26 #[.slice none 0 0] := by rw [hw1]; exact ((Blk.new' (by simp)).alloc _).alloc _
  have GS : Blk w1 (w.heap.size + 1 + 1 + 1) 31 #[.int .i64 0, .int .i64 4611686018427387904] := by rw [hw1]; exact (Blk.new' (by simp)).alloc _
  have GR : Blk w1 (w.heap.size + 1 + 1 + 1 + 1) 56 #[.slice A rs.length c] := by rw [hw1]; exact Blk.new' (by simp)
  have hB1 : Below w.heap.size w w1 := by rw [hw1]; exact ((((((Below.refl _ _).alloc (Nat.le_refl _) _).alloc (by simp) _).alloc (by simp; omega) _).alloc (by simp; omega) _).alloc (by simp; omega) _)
  have hsz : w1.heap.size = w.heap.size + 5 := by rw [hw1]; simp
  have hs1 : (((w.alloc (.cells #[.int .u8 v] 5)).alloc (.cells #[.slice none 0 0] 28)).alloc (.cells #[.slice none 0 0] 26)).heap.size = w.heap.size + 1 + 1 + 1 := by simp
  rw [hs1]
  clear hw1 hs1
  obtain ⟨gl, hgl⟩ : ∃ n, n = w.heap.size + 1 + 1 := ⟨_, rfl⟩
  rw [← hgl] at QL GS GR ⊢
  have hzz : w1.heap.size = gl + 3 := by omega
  have HSZ := hide hsz
  have HGL := hide hgl
  have HZZ := hide hzz
  have hl0 : w.heap.size < gl := by omega
  have hl1 : gl < w1.heap.size := by omega
  have hlz : w.heap.size ≤ w1.heap.size := by omega
  have hlr : w.heap.size + 1 ≠ gl := by omega
  have hlv : w.heap.size ≠ gl := by omega
  clear hgl hsz hzz
  gi_wp2
  refine wpIn_rangeFunc_ownH rfl (show 1 ≤ 5 by decide) (gf := 70) (lb := #[.pointer (some ⟨gl + 1 + 1, 0, none⟩), .pointer (some ⟨gl + 1, 0, none⟩)]) rfl trivial (enters_of Tryd.func70 (by kernel_rfl) rfl)
    (all_stops (5 - 1) (by decide) (gl + 1 + 1) (gl + 1) gl c A rs w1 GR GS (by omega) (by omega) ((hr.below hB1).mono hB1.size) (fun hp b off e => by subst e; obtain ⟨b', off', e', hb', _⟩ := hr.at_ 0 hp; cases e'; omega) hok (by omega)) (fun h k => h.trans k) (fun W l o o' hl _ _ _ => Exb.put W l o o' hl) (Below.refl _ _) (fun _ => rfl)
    (fun pre W => (Blk W w.heap.size 5 #[.int .u8 v] ∧ Blk W (w.heap.size + 1) 28 #[.slice none 0 0] ∧ (∃ V, Blk W gl 26 #[V] ∧ OwnL LSp w1.heap.size W V (ofR v pre)) ∧ w1.heap.size ≤ W.heap.size) ∧ Below w.heap.size w W) (fun _ _ _ => False)
    (OwnFrom.and (fun s A B row hs hg hr => ⟨blk_own hs.1 hg (fun r e => (hr r e).2), blk_own hs.2.1 hg (fun r e => (hr r e).2), hs.2.2.1.elim fun V h => ⟨V, blk_own h.1 hg (fun r e => (hr r e).2), ownL_own h.2 hg (fun r e => (hr r e).2)⟩, Nat.le_trans hs.2.2.2 hg.size⟩) (ownFrom_below (Nat.le_refl _) hlz)) (fun _ _ _ _ _ hs _ _ => hs) ⟨⟨QV, QR, ⟨_, QL, OwnL.nil _ _ _⟩, Nat.le_refl _⟩, hB1⟩
    (fun x a' W => ∃ Bx, gl < Bx ∧ Blk W Bx 31 #[.int .i64 x.1.1, .int .i64 x.1.2] ∧ a' = { tmps := #[.pointer (some ⟨gm, 0, none⟩), .int .u8 v, undef, .pointer (some ⟨w.heap.size, 0, none⟩), .pointer (some ⟨w.heap.size + 1, 0, none⟩), .pointer (some ⟨gl, 0, none⟩), .pointer (some ⟨Bx, 0, none⟩), .int .u8 x.2, .pointer (some ⟨gm, 0, none⟩), .func (.func 70) #[] #[.pointer (some ⟨gl + 1 + 1, 0, none⟩), .pointer (some ⟨gl + 1, 0, none⟩)], .agg #[.int .i64 x.1.1, .int .i64 x.1.2], .int .u8 x.2, undef, undef, undef, undef, undef, undef, undef, undef, undef], defers := [] })
    (fun x a' _ X Y row hs hg hr => by obtain ⟨Bx, h1, h2, h3⟩ := hs; exact ⟨Bx, h1, blk_own h2 hg (fun r e => (hr r e).2), h3⟩)
    ?assign ?body ?done ?stop
  case assign =>
    rintro l pre x W K ⟨⟨P1, P2, ⟨V, P3, P4⟩, hs0⟩, hB⟩ hK
    gi_wp2
    exact hK _ _ ((KeepsOthers.alloc _ _).from _) (Exb.of_below ((Below.refl _ W).alloc (Nat.le_refl _) _) hs0) ⟨⟨P1.alloc _, P2.alloc _, ⟨V, P3.alloc _, P4.alloc _⟩, Nat.le_trans hs0 (by simp)⟩, hB.alloc hB.size _⟩ ⟨W.heap.size, P3.lt, Blk.new W _ _, rfl⟩
  case body =>
    rintro l0 pre x a' W hl _ ⟨⟨P1, P2, ⟨V, P3, P4⟩, hs0⟩, hB⟩ ⟨Bx, hBx, X, rfl⟩ hlt
    obtain ⟨A5, k5, hv5, _, _⟩ := P4.rd.form
    subst hv5
    have c1 := P1.cell
    have hlen := ofR_len v pre
    have hpl : pre.length ≤ 1000 := by omega
    gi_wp2
    refine ⟨trivial, ?_⟩
    refine (CallsIn.inRound l0 (callsIn_wide.2 (alike_any x.2 v W))).mono ?_
    cases q : (x.2 == v)
    · rintro e W2 ⟨rfl, hb2⟩
      have e2 : ofR v (pre ++ [x]) = ofR v pre := by rw [ofR_snoc, q]; simp
      have P4 : OwnL LSp w1.heap.size W (.slice A5 (ofR v pre).length k5) (ofR v (pre ++ [x])) := by rw [e2]; exact P4
      clear q e2 c1 hlen
      have R1 := P1.below hb2 P1.lt
      have R2 := P2.below hb2 P2.lt
      have R3 := P3.below hb2 P3.lt
      have R4 := P4.below hb2 (Nat.le_refl _)
      have pB := hB.trans (hb2.mono hB.size)
      have hs2 := Nat.le_trans hs0 hb2.size
      gi_wp2
      exact ⟨KeepsFrom.of_grownBy (grown_of_below hb2) (fun j e => by cases e), Exb.of_below hb2 hs0, ⟨R1, R2, ⟨_, R3, R4⟩, hs2⟩, pB⟩
    · rintro e W2 ⟨rfl, hb2⟩
      have e2 : ofR v (pre ++ [x]) = ofR v pre ++ [x.1] := by rw [ofR_snoc, q]; simp
      have HE := hide e2
      clear q e2 c1
      have R1 := P1.below hb2 P1.lt
      have R2 := P2.below hb2 P2.lt
      have R3 := P3.below hb2 P3.lt
      have R4 := P4.below hb2 (Nat.le_refl _)
      have RX := X.below hb2 X.lt
      have pB := hB.trans (hb2.mono hB.size)
      have hs2 := Nat.le_trans hs0 hb2.size
      have c3 := R3.cell
      have cX := RX.cell
      have R5 : RdL LSp (W2.alloc (.cells #[.int .i64 x.1.1, .int .i64 x.1.2] 31)) (W2.heap.size + 1) (.slice (some ⟨W2.heap.size, 0, none⟩) 1 1) [x.1] := by
        have := RdL.one_ (L := LSp) (x := x.1) (Blk.new W2 31 #[.int .i64 x.1.1, .int .i64 x.1.2]) rfl
        simpa using this
      have R3a := R3.alloc (.cells #[.int .i64 x.1.1, .int .i64 x.1.2] 31)
      have R4a := R4.alloc (.cells #[.int .i64 x.1.1, .int .i64 x.1.2] 31)
      have NB := R4a.nblk R3a (by decide)
      have HL9 := hide (show (ofR v pre).length + [x.1].length ≤ 1000000000 by rw [List.length_singleton]; omega)
      have hlen2 : (ofR v pre).length ≤ 1000 := by omega
      have hz9 : w1.heap.size ≤ (W2.alloc (.cells #[.int .i64 x.1.1, .int .i64 x.1.2] 31)).heap.size := by simp; omega
      have hbt : LSp.bytes ≤ 1024 := by decide
      gi_wp2_with (gi_at_builtin; go_loud (refine wpListIn_appL LSp ?a1 (.tmp 15) (.tmp 17) 26 26 ?a2 rfl rfl w1.heap.size (.slice A5 (ofR v pre).length k5) (ofR v pre) ?a3 R4a hz9 (.slice (some ⟨W2.heap.size, 0, none⟩) 1 1) [x.1] _ ?a4 R5 hbt HL9.out ?a5; (case a1 => rfl); (case a2 => rfl); (case a3 => rfl); (case a4 => rfl); intro v9 w9 O9 hg9; obtain ⟨A9, k9, hv9, _, _⟩ := O9.rd.form; subst hv9; have R39 := Blk.grownL R3a hg9 NB; have c39 := R39.cell 0; have f39 := R39.frozen 0))
      have R19 := Blk.grownL (R1.alloc _) hg9 (R4a.nblk (R1.alloc _) (by decide))
      have R29 := Blk.grownL (R2.alloc _) hg9 (R4a.nblk (R2.alloc _) (by decide))
      have K1 : KeepsFrom w1.heap.size W W2 := KeepsFrom.of_grownBy (grown_of_below hb2) (fun j e => by cases e)
      have K2 : KeepsFrom w1.heap.size W2 w9 := (((KeepsOthers.alloc _ _).trans (keeps_own R4a hg9)).from _)
      have E1 : Exb gl w1.heap.size W w9 := (Exb.of_below (hb2.trans (((Below.refl _ W2).alloc (Nat.le_refl _) _).mono hb2.size)) hs0).trans (exb_own hg9 (fun k e => (R4.lt k e).1) (by simp; omega))
      have B9 : Below w.heap.size w w9 := (pB.alloc pB.size _).grown hg9 (by simp; have := pB.size; omega) (fun k e => by have := (R4.lt k e).1; omega)
      have hs9 : w1.heap.size ≤ w9.heap.size := Nat.le_trans hs0 E1.1
      have e9 : (ofR v pre ++ [x.1]).length = (ofR v pre).length + 1 := by simp
      rw [e9] at O9
      refine ⟨(K1.trans K2).trans ((KeepsOthers.setCell _ _ _).from _), E1.trans (Exb.set_ _ _), ⟨R19.far hlv _, R29.far hlr _, ?_, Nat.le_trans hs9 (KeepsWalks.setCell w9 _ _).size⟩, below_set B9 (by omega) _⟩
      rw [HE.out]
      exact ⟨_, (by simpa using R39.set_ 0 _), O9.far (fun e => by have := (O9.lt gl e).1; omega) _⟩
  case done =>
    rintro D ys W hD rfl ⟨⟨P1, P2, ⟨V, P3, P4⟩, hs0⟩, hB⟩ hK
    have hD0 : w.heap.size ≤ D := Nat.le_trans hlz hD
    obtain ⟨A5, k5, hv5, _, _⟩ := P4.rd.form
    subst hv5
    have hlen := ofR_len v ys
    have c3 := P3.cell
    gi_wp2
    refine ⟨trivial, ?_⟩
    refine (callsIn_wide.2 (of_any _ (ofR v ys) W P4.rd (by omega))).mono ?_
    rintro e w5 ⟨v5, rfl, R5, hb5⟩
    have hB5 := hB.trans (hb5.mono hB.size)
    have hK5 : w5.heap[D]? = some (.deferred (some [])) := (hb5.block D (Array.getElem?_eq_some_iff.1 hK).1).trans hK
    have R2 := P2.below hb5 P2.lt
    have c2 := R2.cell 0
    have f2 := R2.frozen 0
    have HR5 := hide R5
    obtain ⟨A9, k9, hv9, _, _⟩ := R5.form
    subst hv9
    clear hb5 hK hB c3 R5
    gi_wp2
    have R3 := rd_setcell (V' := .slice A9 (ofL (ofR v ys)).length k9) HR5.out R2 (fun z e => by cases e)
    exact leaveS (g := w.heap.size + 1) rfl (Nat.le_refl _) (by simpa using R2.set_ 0 _) (R3.keep (KeepsWalks.setCell w5 _ _).size (fun _ _ _ _ _ hc => hc)) ((KeepsOthers.setCell _ _ _).same D _ hK5 rfl) hD0 (below_set hB5 (by omega) _)
  case stop =>
    rintro D c pre W _ _ h _
    exact h.elim

end Go.Proofs.YtfcbmajogmojbaaDoor
