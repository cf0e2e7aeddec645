/-
  What a thing is told at all.
-/
import Derived.RangeFuncNested
import Derived.RangeFuncBound
import Derived.RangeFuncCalls
import Derived.RangeFuncLeaves
import Derived.Shelf.Abstract
import Derived.Shelf.RegionOpen
import Derived.WalkKit
import Derived.OwnWalkIn
import Derived.TacticsInMore
import Derived.LoopNIn
import Derived.LoopIn
import Derived.Test.YtfcbmajogmojbaaDoorMapE
namespace Go.Proofs.YtfcbmajogmojbaaDoor
open Go.RowKit Go.Shelf
set_option linter.unusedVariables false
set_option linter.unusedSimpArgs false

attribute [local go_sem] Oper.semAt_some

theorem leaveSK {n D : Nat} {w W : World} {s : List Sp} {g : Nat} {A9 : Option Addr} {k9 : Nat} {tm : Array Value} (ht : tm[2]?.getD undef = .pointer (some ⟨g, 0, none⟩)) (hsz : W.heap.size ≤ W.heap.size) (R2 : Blk W g 28 #[.slice A9 s.length k9]) (R3 : RdL LSp W W.heap.size (.slice A9 s.length k9) s)
    (hK : W.heap[D]? = some (.deferred (some []))) (hD : w.heap.size ≤ D) (hB : Below w.heap.size w W) :
    LeavesInM Fence.wide n Tryd.prog Tryd.f15 tm (SetOk s w) [{ target := .collected D, args := #[] }] .returning W := by
  have S2 : Blk (W.putObj D (.deferred none)) g 28 #[.slice A9 s.length k9] := blk_own R2 (grownBy_putObj' W D _) (fun r e => by cases e; exact ⟨_, hK, rfl⟩)
  have SB : Below w.heap.size w (W.putObj D (.deferred none)) := hB.trans (belowK_b (w := w) (Nat.le_refl _) W D _ _ hD hK rfl rfl)
  have S3 : RdL LSp (W.putObj D (.deferred none)) (W.putObj D (.deferred none)).heap.size (.slice A9 s.length k9) s := by
    refine RdL.keep R3 (by simp) fun b o u hb _ hc => ?_
    exact cell_kept hc (grownBy_putObj' W D _) (fun r e => by cases e; exact ⟨_, hK, rfl⟩)
  have c2 := S2.cell 0
  refine ⟨(by simp), .inl ⟨_, _, rfl, run_takeDeferred hK, ?_⟩⟩
  refine ⟨.agg #[.slice A9 s.length k9], ?_, _, rfl, S3, SB⟩
  have f2 := S2.frozen 0
  simp [results, Tryd.f15, go_sem, ht, c2]

set_option maxRecDepth 100000 in
set_option maxHeartbeats 4000000 in
theorem known_any (gm : Nat) (A : Option Addr) (c : Nat) (rs : List Rn) (w : World) (hG : Blk w gm 58 #[.slice A rs.length c]) (hr : RdL LRn w w.heap.size (.slice A rs.length c) rs) (hok : ∀ r ∈ rs, okS r.1) (hvl : rs.length ≤ 1000) : Calls Tryd.prog 15 #[.pointer (some ⟨gm, 0, none⟩)] w (SetOk (ofL (rs.map (·.1))) w) := by
  refine (callsIn_wide (n := 5)).1 ?_
  refine callsIn_of_wp_marks Tryd.func15 rfl trivial ?_ rfl
  simp only [Tryd.ntmps15, List.size_toArray, List.length_cons, List.length_nil, Nat.reduceAdd, Nat.reduceSub, Array.replicate_succ, Array.replicate_zero, List.push_toArray, List.append_toArray, List.nil_append, List.cons_append]
  gi_wp2
  refine ⟨trivial, ?_⟩
  refine (callsIn_wide.2 (all_any gm A rs.length c _ ((hG.alloc _).alloc _))).mono ?_
  rintro e w1 ⟨rfl, hw1⟩
  have QR : Blk w1 w.heap.size 28 #[.slice none 0 0] := by rw [hw1]; exact (((Blk.new _ _ _).alloc _).alloc _).alloc _
  have QL : Blk w1 (w.heap.size + 1) 26 #[.slice none 0 0] := by rw [hw1]; exact ((Blk.new' (by simp)).alloc _).alloc _
  have GS : Blk w1 (w.heap.size + 1 + 1) 31 #[.int .i64 0, .int .i64 4611686018427387904] := by rw [hw1]; exact (Blk.new' (by simp)).alloc _
  have GR : Blk w1 (w.heap.size + 1 + 1 + 1) 56 #[.slice A rs.length c] := by rw [hw1]; exact Blk.new' (by simp)
  have hB1 : Below w.heap.size w w1 := by rw [hw1]; exact (((((Below.refl _ _).alloc (Nat.le_refl _) _).alloc (by simp) _).alloc (by simp; omega) _).alloc (by simp; omega) _)
  have hsz : w1.heap.size = w.heap.size + 4 := by rw [hw1]; simp
  have hs1 : ((w.alloc (.cells #[.slice none 0 0] 28)).alloc (.cells #[.slice none 0 0] 26)).heap.size = w.heap.size + 1 + 1 := by simp
  rw [hs1]
  clear hw1 hs1
  obtain ⟨gl, hgl⟩ : ∃ n, n = w.heap.size + 1 := ⟨_, rfl⟩
  rw [← hgl] at QL GS GR ⊢
  have hzz : w1.heap.size = gl + 3 := by omega
  have HSZ := hide hsz
  have HGL := hide hgl
  have HZZ := hide hzz
  have hl0 : w.heap.size < gl := by omega
  have hl1 : gl < w1.heap.size := by omega
  have hlz : w.heap.size ≤ w1.heap.size := by omega
  have hlv : w.heap.size ≠ gl := by omega
  clear hgl hsz hzz
  gi_wp2
  refine wpIn_rangeFunc_ownH rfl (show 1 ≤ 5 by decide) (gf := 70) (lb := #[.pointer (some ⟨gl + 1 + 1, 0, none⟩), .pointer (some ⟨gl + 1, 0, none⟩)]) rfl trivial (enters_of Tryd.func70 (by kernel_rfl) rfl)
    (all_stops (5 - 1) (by decide) (gl + 1 + 1) (gl + 1) gl c A rs w1 GR GS (by omega) (by omega) ((hr.below hB1).mono hB1.size) (fun hp b off e => by subst e; obtain ⟨b', off', e', hb', _⟩ := hr.at_ 0 hp; cases e'; omega) hok (by omega)) (fun h k => h.trans k) (fun W l o o' hl _ _ _ => Exb.put W l o o' hl) (Below.refl _ _) (fun _ => rfl)
    (fun pre W => (Blk W w.heap.size 28 #[.slice none 0 0] ∧ (∃ V, Blk W gl 26 #[V] ∧ OwnL LSp w1.heap.size W V (pre.map (·.1))) ∧ w1.heap.size ≤ W.heap.size) ∧ Below w.heap.size w W) (fun _ _ _ => False)
    (OwnFrom.and (fun s A B row hs hg hr => ⟨blk_own hs.1 hg (fun r e => (hr r e).2), hs.2.1.elim fun V h => ⟨V, blk_own h.1 hg (fun r e => (hr r e).2), ownL_own h.2 hg (fun r e => (hr r e).2)⟩, Nat.le_trans hs.2.2 hg.size⟩) (ownFrom_below (Nat.le_refl _) hlz)) (fun _ _ _ _ _ hs _ _ => hs) ⟨⟨QR, ⟨_, QL, OwnL.nil _ _ _⟩, Nat.le_refl _⟩, hB1⟩
    (fun x a' W => ∃ Bx, gl < Bx ∧ Blk W Bx 31 #[.int .i64 x.1.1, .int .i64 x.1.2] ∧ a' = { tmps := #[.pointer (some ⟨gm, 0, none⟩), undef, .pointer (some ⟨w.heap.size, 0, none⟩), .pointer (some ⟨gl, 0, none⟩), .pointer (some ⟨Bx, 0, none⟩), .pointer (some ⟨gm, 0, none⟩), .func (.func 70) #[] #[.pointer (some ⟨gl + 1 + 1, 0, none⟩), .pointer (some ⟨gl + 1, 0, none⟩)], .agg #[.int .i64 x.1.1, .int .i64 x.1.2], .int .u8 x.2, undef, undef, undef, undef, undef, undef], defers := [] })
    (fun x a' _ X Y row hs hg hr => by obtain ⟨Bx, h1, h2, h3⟩ := hs; exact ⟨Bx, h1, blk_own h2 hg (fun r e => (hr r e).2), h3⟩)
    ?assign ?body ?done ?stop
  case assign =>
    rintro l pre x W K ⟨⟨P2, ⟨V, P3, P4⟩, hs0⟩, hB⟩ hK
    have c2 := P2.cell
    gi_wp2
    exact hK _ _ ((KeepsOthers.alloc _ _).from _) (Exb.of_below ((Below.refl _ W).alloc (Nat.le_refl _) _) hs0) ⟨⟨P2.alloc _, ⟨V, P3.alloc _, P4.alloc _⟩, Nat.le_trans hs0 (by simp)⟩, hB.alloc hB.size _⟩ ⟨W.heap.size, P3.lt, Blk.new W _ _, rfl⟩
  case body =>
    rintro l0 pre x a' W2 hl _ ⟨⟨R2, ⟨V, R3, R4⟩, hs0⟩, pB⟩ ⟨Bx, hBx, RX, rfl⟩ hlt
    obtain ⟨A5, k5, hv5, _, _⟩ := R4.rd.form
    subst hv5
    have HE := hide (show (pre ++ [x]).map (·.1) = pre.map (·.1) ++ [x.1] by simp)
    have hlm : (pre.map (·.1)).length = pre.length := List.length_map _
    obtain ⟨ps, hps⟩ : ∃ l : List Sp, l = pre.map (·.1) := ⟨_, rfl⟩
    rw [← hps] at R3 R4 HE hlm
    have hpl : ps.length ≤ 1000 := by omega
    have c3 := R3.cell
    have cX := RX.cell
    have R5 : RdL LSp (W2.alloc (.cells #[.int .i64 x.1.1, .int .i64 x.1.2] 31)) (W2.heap.size + 1) (.slice (some ⟨W2.heap.size, 0, none⟩) 1 1) [x.1] := by
      have := RdL.one_ (L := LSp) (x := x.1) (Blk.new W2 31 #[.int .i64 x.1.1, .int .i64 x.1.2]) rfl
      simpa using this
    have R3a := R3.alloc (.cells #[.int .i64 x.1.1, .int .i64 x.1.2] 31)
    have R4a := R4.alloc (.cells #[.int .i64 x.1.1, .int .i64 x.1.2] 31)
    have NB := R4a.nblk R3a (by decide)
    have HL9 := hide (show ps.length + [x.1].length ≤ 1000000000 by rw [List.length_singleton]; omega)
    have hz9 : w1.heap.size ≤ (W2.alloc (.cells #[.int .i64 x.1.1, .int .i64 x.1.2] 31)).heap.size := by simp; omega
    have hbt : LSp.bytes ≤ 1024 := by decide
    clear hlm hpl hps
    gi_wp2_with (gi_at_builtin; refine wpListIn_appL LSp ?a1 (.tmp 9) (.tmp 11) 26 26 ?a2 rfl rfl w1.heap.size (.slice A5 ps.length k5) ps ?a3 R4a hz9 (.slice (some ⟨W2.heap.size, 0, none⟩) 1 1) [x.1] _ ?a4 R5 hbt HL9.out ?a5; (case a1 => rfl); (case a2 => rfl); (case a3 => rfl); (case a4 => rfl); intro v9 w9 O9 hg9; obtain ⟨A9, k9, hv9, _, _⟩ := O9.rd.form; subst hv9; have R39 := Blk.grownL R3a hg9 NB; have c39 := R39.cell 0; have f39 := R39.frozen 0)
    have R29 := Blk.grownL (R2.alloc _) hg9 (R4a.nblk (R2.alloc _) (by decide))
    have K2 : KeepsFrom w1.heap.size W2 w9 := (((KeepsOthers.alloc _ _).trans (keeps_own R4a hg9)).from _)
    have E1 : Exb gl w1.heap.size W2 w9 := (Exb.of_below ((Below.refl _ W2).alloc (Nat.le_refl _) _) hs0).trans (exb_own hg9 (fun k e => (R4.lt k e).1) (by simp; omega))
    have B9 : Below w.heap.size w w9 := (pB.alloc pB.size _).grown hg9 (by simp; have := pB.size; omega) (fun k e => by have := (R4.lt k e).1; omega)
    have hs9 : w1.heap.size ≤ w9.heap.size := Nat.le_trans hs0 E1.1
    have e9 : (ps ++ [x.1]).length = ps.length + 1 := by simp
    rw [e9] at O9
    refine ⟨K2.trans ((KeepsOthers.setCell _ _ _).from _), E1.trans (Exb.set_ _ _), ⟨R29.far hlv _, ?_, Nat.le_trans hs9 (KeepsWalks.setCell w9 _ _).size⟩, below_set B9 (by omega) _⟩
    rw [HE.out]
    exact ⟨_, (by simpa using R39.set_ 0 _), O9.far (fun e => by have := (O9.lt gl e).1; omega) _⟩
  case done =>
    rintro D ys W hD rfl ⟨⟨P2, ⟨V, P3, P4⟩, hs0⟩, hB⟩ hK
    have hD0 : w.heap.size ≤ D := Nat.le_trans hlz hD
    obtain ⟨A5, k5, hv5, _, _⟩ := P4.rd.form
    subst hv5
    obtain ⟨qs, hqs⟩ : ∃ l : List Sp, l = ys.map (·.1) := ⟨_, rfl⟩
    have hlen : qs.length ≤ 1000 := by rw [hqs, List.length_map]; exact hvl
    rw [← hqs] at P3 P4
    have HQS := hide hqs
    clear hqs
    have c3 := P3.cell
    gi_wp2
    refine ⟨trivial, ?_⟩
    refine (callsIn_wide.2 (of_any _ qs W P4.rd (by omega))).mono ?_
    rintro e w5 ⟨v5, rfl, R5, hb5⟩
    have hB5 := hB.trans (hb5.mono hB.size)
    have hK5 : w5.heap[D]? = some (.deferred (some [])) := (hb5.block D (Array.getElem?_eq_some_iff.1 hK).1).trans hK
    have R2 := P2.below hb5 P2.lt
    have c2 := R2.cell 0
    have f2 := R2.frozen 0
    have HR5 := hide R5
    obtain ⟨A9, k9, hv9, _, _⟩ := R5.form
    subst hv9
    clear hb5 hK hB c3 R5
    gi_wp2
    have R3 := rd_setcell (V' := .slice A9 (ofL qs).length k9) HR5.out R2 (fun z e => by cases e)
    rw [← HQS.out]
    exact leaveSK (g := w.heap.size) rfl (Nat.le_refl _) (by simpa using R2.set_ 0 _) (R3.keep (KeepsWalks.setCell w5 _ _).size (fun _ _ _ _ _ hc => hc)) ((KeepsOthers.setCell _ _ _).same D _ hK5 rfl) hD0 (below_set hB5 (by omega) _)
  case stop =>
    rintro D c pre W _ _ h _
    exact h.elim

end Go.Proofs.YtfcbmajogmojbaaDoor
