/-
  Gaps, widened to whole slices.
-/
import Derived.RangeFuncNested
import Derived.RangeFuncBound
import Derived.RangeFuncCalls
import Derived.RangeFuncLeaves
import Derived.Shelf.Abstract
import Derived.Shelf.RegionOpen
import Derived.WalkKit
import Derived.OwnWalkIn
import Derived.TacticsInMore
import Derived.LoopNIn
import Derived.LoopIn
import Derived.Test.YtfcbmajogmojbaaDoorPlA
import Derived.Test.YtfcbmajogmojbaaDoorPlB
import Derived.Test.YtfcbmajogmojbaaDoorPlanN
namespace Go.Proofs.YtfcbmajogmojbaaDoor
open Go.RowKit Go.Shelf
set_option linter.unusedVariables false
set_option linter.unusedSimpArgs false

attribute [local go_sem] Oper.semAt_some

theorem rd_drew {α : Type} {L : Lay α} {w : World} {v : Value} {l : List α} (h : RdL L w w.heap.size v l) : RdL L w.drew w.drew.heap.size v l := h
theorem below_drew {w w' : World} (h : Below w.drew.heap.size w.drew w') : Below w.heap.size w w' := ⟨h.os, h.tape, h.output, h.size, h.block⟩
theorem sp_far {w : World} {B g n c b off : Nat} {t : TypeId} {V : Value} {l : List Sp} (h : RdL LSp w B (.slice (some ⟨b, off, none⟩) n c) l) (hp : 0 < l.length) (hg : Blk w g t #[V]) (hV : ∀ z, V ≠ .int .i64 z) : b ≠ g := by
  obtain ⟨b', off', e, hb, hc⟩ := h.at_ 0 hp
  cases e
  rintro rfl
  have := hc 0 (.int .i64 (l[0]).1) rfl
  rw [hg.cell] at this
  obtain ⟨n, hn⟩ : ∃ n, n = off + 0 * LSp.n + 0 := ⟨_, rfl⟩
  rw [← hn] at this
  rcases n with _ | n
  · exact hV _ (Option.some.inj this)
  · simp at this
theorem rd_own {α : Type} {L : Lay α} {A A' : World} {B : Nat} {row : Option Nat} {v : Value} {l : List α} (h : RdL L A B v l) (hB : B ≤ A.heap.size) (hg : A.grownBy A' row) (hr : ∀ r, row = some r → B ≤ r) : RdL L A' B v l := by
  refine RdL.keep h (Nat.le_refl _) fun b o u hb _ hc => ?_
  have : A'.heap[b]? = A.heap[b]? := hg.block b (by omega) (fun e => by have := hr b e.symm; omega)
  simpa [World.cell?, this] using hc
theorem rd_set {A : World} {B g : Nat} {v u : Value} {t : TypeId} {V : Value} {l : List Sp} (h : RdL LSp A B v l) (hg : Blk A g t #[V]) (hV : ∀ z, V ≠ .int .i64 z) (hB : B ≤ A.heap.size) : RdL LSp (A.setCell ⟨g, 0, none⟩ u) B v l := by
  refine RdL.keep h (Nat.le_refl _) fun b o u' hb ⟨i, j, hi, hu⟩ hc => ?_
  have hne : b ≠ g := by
    rintro rfl
    rw [hg.cell] at hc
    have hz : ∃ z, u' = .int .i64 z := by
      have hj : j < 2 := by
        have := (List.getElem?_eq_some_iff.1 hu).1
        rw [LSp.len] at this; exact this
      have hj : j = 0 ∨ j = 1 := by omega
      rcases hj with rfl | rfl
      · exact ⟨_, (Option.some.inj hu).symm⟩
      · exact ⟨_, (Option.some.inj hu).symm⟩
    obtain ⟨z, rfl⟩ := hz
    rcases o with _ | o
    · have := Option.some.inj hc
      exact absurd this (hV z)
    · simp at hc
  exact (World.cell?_setCell_other A _ _ _ (fun e => hne (by cases e; rfl))).trans hc

theorem leaveSU {n D : Nat} {w W : World} {s : List Sp} {g : Nat} {A9 : Option Addr} {k9 : Nat} {tm : Array Value} (ht : tm[6]?.getD undef = .pointer (some ⟨g, 0, none⟩)) (hsz : W.heap.size ≤ W.heap.size) (R2 : Blk W g 28 #[.slice A9 s.length k9]) (R3 : RdL LSp W W.heap.size (.slice A9 s.length k9) s)
    (hK : W.heap[D]? = some (.deferred (some []))) (hD : w.heap.size ≤ D) (hB : Below w.heap.size w W) :
    LeavesInM Fence.wide n Tryd.prog Tryd.f54 tm (SetOk s w) [{ target := .collected D, args := #[] }] .returning W := by
  have S2 : Blk (W.putObj D (.deferred none)) g 28 #[.slice A9 s.length k9] := blk_own R2 (grownBy_putObj' W D _) (fun r e => by cases e; exact ⟨_, hK, rfl⟩)
  have SB : Below w.heap.size w (W.putObj D (.deferred none)) := hB.trans (belowK_b (w := w) (Nat.le_refl _) W D _ _ hD hK rfl rfl)
  have S3 : RdL LSp (W.putObj D (.deferred none)) (W.putObj D (.deferred none)).heap.size (.slice A9 s.length k9) s := by
    refine RdL.keep R3 (by simp) fun b o u hb _ hc => ?_
    exact cell_kept hc (grownBy_putObj' W D _) (fun r e => by cases e; exact ⟨_, hK, rfl⟩)
  have c2 := S2.cell 0
  refine ⟨(by simp), .inl ⟨_, _, rfl, run_takeDeferred hK, ?_⟩⟩
  refine ⟨.agg #[.slice A9 s.length k9], ?_, _, rfl, S3, SB⟩
  have f2 := S2.frozen 0
  simp [results, Tryd.f54, go_sem, ht, c2]

set_option maxRecDepth 100000 in
set_option maxHeartbeats 4000000 in
theorem units_any (v : Value) (g f : List Sp) (h : PlanOk g f) (w : World) (hr : RdL LSp w w.heap.size v g) : Calls Tryd.prog 54 #[.agg #[v], .int .i64 120, .int .i64 4] w (SetOk (wideL g) w) := by
  obtain ⟨gx, hgx⟩ := spx_of (l := g) fun x hx => ⟨nf_ok h.ng x hx, (within_hi h.ng h.inn x hx).2⟩
  have HGX := hide hgx
  have hgxl : gx.length = g.length := by rw [← hgx, List.length_map]
  have HGL := hide hgxl
  clear hgx hgxl
  obtain ⟨A, c, rfl, hlc, hc⟩ := hr.form
  have HR := hide hr
  clear hr
  refine (callsIn_wide (n := 5)).1 ?_
  refine callsIn_of_wp_marks Tryd.func54 rfl trivial ?_ rfl
  simp only [Tryd.ntmps54, List.size_toArray, List.length_cons, List.length_nil, Nat.reduceAdd, Nat.reduceSub, Array.replicate_succ, Array.replicate_zero, List.push_toArray, List.append_toArray, List.nil_append, List.cons_append]
  gi_wp2
  obtain ⟨w0, hw0⟩ : ∃ W : World, W = ((w.alloc (.cells #[.slice A g.length c] 28)).alloc (.cells #[.int .i64 4] 2)).alloc (.cells #[.slice none 0 0] 28) := ⟨_, rfl⟩
  rw [← hw0]
  have QG : Blk w0 w.heap.size 28 #[.slice A g.length c] := by rw [hw0]; exact ((Blk.new _ _ _).alloc _).alloc _
  have QU : Blk w0 (w.heap.size + 1) 2 #[.int .i64 4] := by rw [hw0]; exact (Blk.new' (by simp)).alloc _
  have QR : Blk w0 (w.heap.size + 1 + 1) 28 #[.slice none 0 0] := by rw [hw0]; exact Blk.new' (by simp)
  have hB0 : Below w.heap.size w w0 := by rw [hw0]; exact (((Below.refl _ _).alloc (Nat.le_refl _) _).alloc (by simp) _).alloc (by simp; omega) _
  obtain ⟨gu, hgu⟩ : ∃ n, n = w.heap.size + 1 := ⟨_, rfl⟩
  obtain ⟨gr, hgr⟩ : ∃ n, n = w.heap.size + 1 + 1 := ⟨_, rfl⟩
  rw [← hgr] at QR ⊢
  rw [← hgu] at QU ⊢
  have hu0 : w.heap.size ≤ gu := by omega
  have hr0 : w.heap.size ≤ gr := by omega
  have hur : gu ≠ gr := by omega
  have hgu9 : gu ≠ w.heap.size := by omega
  clear hw0 hgu hgr
  have cU := QU.cell
  gi_wp2
  refine ⟨trivial, ?_⟩
  refine (callsIn_wide.2 (measures_4 w0)).mono ?_
  rintro e w' ⟨rfl, rfl⟩
  gi_wp2
  refine ⟨trivial, ?_⟩
  refine (callsIn_wide.2 (object_120 w0)).mono ?_
  rintro e w2 ⟨rfl, hb2⟩
  have hB2 := hB0.trans (hb2.mono hB0.size)
  replace QG := QG.below hb2 QG.lt
  replace QU := QU.below hb2 QU.lt
  replace QR := QR.below hb2 QR.lt
  clear hb2 cU hB0
  have R5 : RdL LSp (w2.alloc (.cells #[.int .i64 0, .int .i64 120] 31)) (w2.alloc (.cells #[.int .i64 0, .int .i64 120] 31)).heap.size (.slice (some ⟨w2.heap.size, 0, none⟩) 1 1) allP := by simpa using RdL.one_ (L := LSp) (x := ((0 : Int), (120 : Int))) (Blk.new w2 31 #[.int .i64 0, .int .i64 120]) rfl
  gi_wp2
  refine ⟨trivial, ?_⟩
  refine (callsIn_wide.2 (of_any _ allP _ R5 (by decide))).mono ?_
  rw [all_of]
  rintro e w3 ⟨vA, rfl, hrA, hb3⟩
  have hb23 : Below w2.heap.size w2 w3 := ((Below.refl _ w2).alloc (Nat.le_refl _) (.cells #[.int .i64 0, .int .i64 120] 31)).trans (hb3.mono (by simp))
  have hB3 := hB2.trans (hb23.mono hB2.size)
  replace QG := QG.below hb23 QG.lt
  replace QU := QU.below hb23 QU.lt
  replace QR := QR.below hb23 QR.lt
  clear hb3 hb23 R5 hB2
  obtain ⟨AA, cA, hvA, _, _⟩ := hrA.form
  subst hvA
  have HRA := hide hrA
  clear hrA
  have cG := ((QG.alloc (.cells #[.slice AA 1 cA] 28)).alloc (.cells #[.slice none 0 0] 26)).cell
  gi_wp2
  obtain ⟨w4, hw4⟩ : ∃ W : World, W = (w3.alloc (.cells #[.slice AA 1 cA] 28)).alloc (.cells #[.slice none 0 0] 26) := ⟨_, rfl⟩
  rw [← hw4] at cG ⊢
  have QA : Blk w4 w3.heap.size 28 #[.slice AA 1 cA] := by rw [hw4]; exact (Blk.new _ _ _).alloc _
  have QL : Blk w4 (w3.heap.size + 1) 26 #[.slice none 0 0] := by rw [hw4]; exact Blk.new' (by simp)
  have hb34 : Below w3.heap.size w3 w4 := by rw [hw4]; exact ((Below.refl _ _).alloc (Nat.le_refl _) _).alloc (by simp) _
  have hlg := QG.lt
  have hlu := QU.lt
  have hlr := QR.lt
  obtain ⟨ga, hga⟩ : ∃ n, n = w3.heap.size := ⟨_, rfl⟩
  obtain ⟨gl, hgl⟩ : ∃ n, n = w3.heap.size + 1 := ⟨_, rfl⟩
  rw [← hgl] at QL ⊢
  rw [← hga] at QA ⊢
  have hgal : ga ≠ gl := by omega
  have hgul : gu ≠ gl := by omega
  have hgrl : gr ≠ gl := by omega
  have hga0 : w.heap.size ≤ ga := by have := hB3.size; omega
  have hgl0 : w.heap.size ≤ gl := by omega
  have hgar : ga ≠ gr := by omega
  have hAl : w3.heap.size ≤ gl := by omega
  have hB4 := hB3.trans (hb34.mono hB3.size)
  replace QG := QG.below hb34 QG.lt
  replace QU := QU.below hb34 QU.lt
  replace QR := QR.below hb34 QR.lt
  have HRA4 := hide ((HRA.out.below hb34).mono hb34.size)
  have HAL := hide (show RdL LSp w4 gl (.slice AA 1 cA) allP from (HRA.out.below hb34).mono hAl)
  have HG4 := hide ((HR.out.below hB4).mono hB4.size)
  have hgl5 : g.length ≤ 500000 := by have := h.glen; omega
  have ha5 : allP.length ≤ 500000 := by decide
  have hl0 : w.heap.size < gl := by have := hB3.size; omega
  clear hw4 hga hgl hb34 hlg hlu hlr hB3 HRA cG
  refine ⟨trivial, ?_⟩
  refine (callsIn_wide.2 (and_any _ _ g allP w4 HG4.out HRA4.out h.ng all_nf hgl5 ha5)).mono ?_
  rw [h.and_all]
  rintro e w5 ⟨v5, rfl, hr5, hb5⟩
  obtain ⟨A5, c5, hv5, _, _⟩ := hr5.form
  subst hv5
  have hB5 := hB4.trans (hb5.mono hB4.size)
  replace QU := QU.below hb5 QU.lt
  replace QR := QR.below hb5 QR.lt
  replace QA := QA.below hb5 QA.lt
  replace HAL := hide (HAL.out.below (hb5.mono (Nat.le_of_lt QL.lt)))
  replace QL := QL.below hb5 QL.lt
  have HR5 := hide hr5
  clear hr5 hb5 HRA4 HG4 QG hB4 hlc hc
  gi_wp2
  refine ⟨trivial, ?_⟩
  refine (callsIn_wide.2 (setall_any A5 g.length c5 w5)).mono ?_
  rintro e w1 ⟨rfl, hw1⟩
  obtain ⟨gb, hgb⟩ : ∃ n, n = w5.heap.size := ⟨_, rfl⟩
  rw [← hgb]
  have hb1 : Below w5.heap.size w5 w1 := by rw [hw1]; exact (Below.refl _ _).alloc (Nat.le_refl _) _
  have GR : Blk w1 gb 28 #[.slice A5 g.length c5] := by rw [hw1, hgb]; exact Blk.new _ _ _
  have hlt5 := QL.lt
  have hgbl : gb ≠ gl := by omega
  have hgl1 : gl < w1.heap.size := by have := hb1.size; omega
  have hB1 := hB5.trans (hb1.mono hB5.size)
  replace QU := QU.below hb1 QU.lt
  replace QR := QR.below hb1 QR.lt
  replace QA := QA.below hb1 QA.lt
  replace HAL := hide (HAL.out.below (hb1.mono (Nat.le_of_lt hlt5)))
  replace QL := QL.below hb1 QL.lt
  have HR1 := hide ((HR5.out.below hb1).mono hb1.size)
  have hAb : 0 < g.length → ∀ b off, A5 = some ⟨b, off, none⟩ → b ≠ gl := fun hp b off e => by subst e; exact sp_far HR1.out hp QL (fun z e => by cases e)
  clear hw1 hgb hb1 HR5 hB5 hlt5
  have hlz : w.heap.size ≤ w1.heap.size := hB1.size
  gi_wp2
  refine wpIn_rangeFunc_ownH rfl (show 1 ≤ 5 by decide) (gf := 80) (lb := #[.pointer (some ⟨gb, 0, none⟩)]) rfl trivial (enters_of Tryd.func80 (by kernel_rfl) rfl)
    (setall_stops (5 - 1) (by decide) gb gl c5 A5 gx w1 (by rw [HGL.out]; exact GR) (by rw [HGL.out, HGX.out]; exact HR1.out) (by rw [HGL.out]; exact hAb) (by rw [HGL.out]; omega)) (fun h k => h.trans k) (fun W l o o' hl _ _ _ => Exb.put W l o o' hl) (Below.refl _ _) (fun _ => rfl)
    (fun pre W => (Blk W gu 2 #[.int .i64 4] ∧ Blk W gr 28 #[.slice none 0 0] ∧ Blk W ga 28 #[.slice AA 1 cA] ∧ RdL LSp W w1.heap.size (.slice AA 1 cA) allP ∧ (∃ V, Blk W gl 26 #[V] ∧ OwnL LSp w1.heap.size W V (pre.map fun x => alignS x.1)) ∧ w1.heap.size ≤ W.heap.size) ∧ Below w.heap.size w W) (fun _ _ _ => False)
    (OwnFrom.and (fun s A B row hs hg hr => ⟨blk_own hs.1 hg (fun r e => (hr r e).2), blk_own hs.2.1 hg (fun r e => (hr r e).2), blk_own hs.2.2.1 hg (fun r e => (hr r e).2), rd_own hs.2.2.2.1 hs.2.2.2.2.2 hg (fun r e => (hr r e).1), hs.2.2.2.2.1.elim fun V h => ⟨V, blk_own h.1 hg (fun r e => (hr r e).2), ownL_own h.2 hg (fun r e => (hr r e).2)⟩, Nat.le_trans hs.2.2.2.2.2 hg.size⟩) (ownFrom_below (Nat.le_refl _) hlz)) (fun _ _ _ _ _ hs _ _ => hs) ⟨⟨QU, QR, QA, HAL.out.mono (Nat.le_of_lt hgl1), ⟨_, QL, OwnL.nil _ _ _⟩, Nat.le_refl _⟩, hB1⟩
    (fun x a' W => ∃ Bx, gl < Bx ∧ Blk W Bx 31 #[.int .i64 x.1.1, .int .i64 x.1.2] ∧ a' = { tmps := #[.agg #[.slice A g.length c], .int .i64 120, .int .i64 4, .pointer (some ⟨w.heap.size, 0, none⟩), undef, .pointer (some ⟨gu, 0, none⟩), .pointer (some ⟨gr, 0, none⟩), .pointer (some ⟨ga, 0, none⟩), .pointer (some ⟨gl, 0, none⟩), .pointer (some ⟨Bx, 0, none⟩), undef, undef, .int .i64 120, .int .i64 4, .bool true, .bool false, undef, .int .i64 120, .agg #[.int .i64 0, .int .i64 120], .slice (some ⟨w2.heap.size, 0, none⟩) 1 1, .agg #[.slice AA 1 cA], .agg #[.slice A g.length c], .agg #[.slice AA 1 cA], .agg #[.slice A5 g.length c5], .func (.func 80) #[] #[.pointer (some ⟨gb, 0, none⟩)], .agg #[.int .i64 x.1.1, .int .i64 x.1.2], undef, undef, undef, undef, undef, undef, undef, undef, undef, undef, undef, undef, undef, undef], defers := [] })
    (fun x a' _ X Y row hs hg hr => by obtain ⟨Bx, h1, h2, h3⟩ := hs; exact ⟨Bx, h1, blk_own h2 hg (fun r e => (hr r e).2), h3⟩)
    ?assign ?body ?done ?stop
  case assign =>
    rintro l pre x W K ⟨⟨P1, P2, P3, P4, ⟨V, P5, P6⟩, hs0⟩, hB⟩ hK
    gi_wp2
    exact hK _ _ ((KeepsOthers.alloc _ _).from _) (Exb.of_below ((Below.refl _ W).alloc (Nat.le_refl _) _) hs0) ⟨⟨P1.alloc _, P2.alloc _, P3.alloc _, P4.below ((Below.refl _ W).alloc hs0 _), ⟨V, P5.alloc _, P6.alloc _⟩, Nat.le_trans hs0 (by simp)⟩, hB.alloc hB.size _⟩ ⟨W.heap.size, P5.lt, Blk.new W _ _, rfl⟩
  case body =>
    rintro l0 pre x a' W2 hl _ ⟨⟨P1, P2, P3, P4, ⟨V, P5, P6⟩, hs0⟩, hB⟩ ⟨Bx, hBx, RX, rfl⟩ hlt
    obtain ⟨A6, k6, hv6, _, _⟩ := P6.rd.form
    subst hv6
    obtain ⟨ya, yb, hy⟩ : ∃ a b : Int, alignS x.1 = (a, b) := ⟨_, _, rfl⟩
    have HE := hide (show ((pre ++ [x]).map fun x => alignS x.1) = (pre.map fun x => alignS x.1) ++ [(ya, yb)] by simp [hy])
    have hlm : (pre.map fun x => alignS x.1).length = pre.length := List.length_map _
    obtain ⟨ps, hps⟩ : ∃ l : List Sp, l = pre.map fun x => alignS x.1 := ⟨_, rfl⟩
    rw [← hps] at P5 P6 HE hlm
    have hgll := HGL.out
    have hpl : ps.length ≤ 500000 := by omega
    have hcon := align_any x.1.1 x.1.2 x.2.1.1 x.2.1.2.1 x.2.2 W2
    rw [show ((x.1.1, x.1.2) : Sp) = x.1 from rfl, hy] at hcon
    have HCN := hide hcon
    have cU := P1.cell
    have cX := RX.cell
    clear hcon hy hps hlm hgll
    gi_wp2
    refine ⟨trivial, ?_⟩
    refine (CallsIn.inRound l0 (callsIn_wide.2 HCN.out)).mono ?_
    rintro e W3 ⟨rfl, hb3⟩
    have R1 := P1.below hb3 P1.lt
    have R2 := P2.below hb3 P2.lt
    have R3 := P3.below hb3 P3.lt
    have R4 := P4.below (hb3.mono hs0)
    have R5 := P5.below hb3 P5.lt
    have R6 := P6.below hb3 (Nat.le_refl _)
    have pB := hB.trans (hb3.mono hB.size)
    have hs3 := Nat.le_trans hs0 hb3.size
    have K1 : KeepsFrom w1.heap.size W2 W3 := KeepsFrom.of_grownBy (grown_of_below hb3) (fun j e => by cases e)
    have E1 : Exb gl w1.heap.size W2 W3 := Exb.of_below hb3 hs0
    clear cU cX P1 P2 P3 P4 P5 P6 hB hb3 HCN RX
    have R5b := (R5.alloc (.cells #[.int .i64 ya, .int .i64 yb] 31)).alloc (.cells #[.int .i64 ya, .int .i64 yb] 31)
    have R6b := (R6.alloc (.cells #[.int .i64 ya, .int .i64 yb] 31)).alloc (.cells #[.int .i64 ya, .int .i64 yb] 31)
    have NB := R6b.nblk R5b (by decide)
    have c5b := (R5.alloc (.cells #[.int .i64 ya, .int .i64 yb] 31)).cell
    have RN := RdL.one_ (L := LSp) (x := (ya, yb)) (Blk.new' (w := W3.alloc (.cells #[.int .i64 ya, .int .i64 yb] 31)) (t := 31) (cs := #[.int .i64 ya, .int .i64 yb]) (g := W3.heap.size + 1) (by simp)) rfl
    have HL9 := hide (show ps.length + [(ya, yb)].length ≤ 1000000000 by rw [List.length_singleton]; omega)
    have hz9 : w1.heap.size ≤ ((W3.alloc (.cells #[.int .i64 ya, .int .i64 yb] 31)).alloc (.cells #[.int .i64 ya, .int .i64 yb] 31)).heap.size := by simp; omega
    have hbt : LSp.bytes ≤ 1024 := by decide
    have hzb : Below W3.heap.size W3 ((W3.alloc (.cells #[.int .i64 ya, .int .i64 yb] 31)).alloc (.cells #[.int .i64 ya, .int .i64 yb] 31)) := ((Below.refl _ _).alloc (Nat.le_refl _) _).alloc (by simp) _
    gi_wp2_with (gi_at_builtin; refine wpListIn_appL LSp ?a1 (.tmp 32) (.tmp 34) 26 26 ?a2 rfl rfl w1.heap.size (.slice A6 ps.length k6) ps ?a3 R6b hz9 (.slice (some ⟨W3.heap.size + 1, 0, none⟩) 1 1) [(ya, yb)] _ ?a4 RN hbt HL9.out ?a5; (case a1 => rfl); (case a2 => rfl); (case a3 => rfl); (case a4 => rfl); intro v9 w9 O9 hg9; obtain ⟨A9, k9, hv9, _, _⟩ := O9.rd.form; subst hv9; have R59 := Blk.grownL R5b hg9 NB; have c59 := R59.cell 0; have f59 := R59.frozen 0)
    have R19 := Blk.grownL ((R1.alloc _).alloc _) hg9 (R6b.nblk ((R1.alloc _).alloc _) (by decide))
    have R29 := Blk.grownL ((R2.alloc _).alloc _) hg9 (R6b.nblk ((R2.alloc _).alloc _) (by decide))
    have R39 := Blk.grownL ((R3.alloc _).alloc _) hg9 (R6b.nblk ((R3.alloc _).alloc _) (by decide))
    have R49 := rd_own (R4.below (hzb.mono hs3)) hz9 hg9 (fun k e => (R6.lt k e).1)
    have K2 : KeepsFrom w1.heap.size W3 w9 := ((((KeepsOthers.alloc _ _).trans (KeepsOthers.alloc _ _)).trans (keeps_own R6b hg9)).from _)
    have E2 : Exb gl w1.heap.size W3 w9 := (Exb.of_below hzb hs3).trans (exb_own hg9 (fun k e => (R6.lt k e).1) hz9)
    have B9 : Below w.heap.size w w9 := (pB.trans (hzb.mono pB.size)).grown hg9 (by have := pB.size; have := hzb.size; omega) (fun k e => by have := (R6.lt k e).1; omega)
    have hs9 : w1.heap.size ≤ w9.heap.size := Nat.le_trans hs3 E2.1
    have e9 : (ps ++ [(ya, yb)]).length = ps.length + 1 := by simp
    rw [e9] at O9
    refine ⟨(K1.trans K2).trans ((KeepsOthers.setCell _ _ _).from _), (E1.trans E2).trans (Exb.set_ _ _), ⟨R19.far hgul _, R29.far hgrl _, R39.far hgal _, rd_set R49 R59 (fun z e => by cases e) hs9, ?_, Nat.le_trans hs9 (KeepsWalks.setCell w9 _ _).size⟩, below_set B9 (by omega) _⟩
    rw [HE.out]
    exact ⟨_, (by simpa using R59.set_ 0 _), O9.far (fun e => by have := (O9.lt gl e).1; omega) _⟩
  case done =>
    rintro D ys W hD rfl ⟨⟨P1, P2, P3, P4, ⟨V, P5, P6⟩, hs0⟩, hB⟩ hK
    have hD0 : w.heap.size ≤ D := Nat.le_trans hlz hD
    obtain ⟨A6, k6, hv6, _, _⟩ := P6.rd.form
    subst hv6
    have HQS := hide (show (ys.map fun x => alignS x.1) = g.map alignS by rw [← HGX.out, List.map_map]; rfl)
    obtain ⟨qs, hqs⟩ : ∃ l : List Sp, l = ys.map fun x => alignS x.1 := ⟨_, rfl⟩
    have hlen : qs.length ≤ 1000 := by rw [hqs, List.length_map, HGL.out]; have := h.glen; omega
    rw [← hqs] at P5 P6 HQS
    clear hqs
    have hmx : Tryd.prog.follows .mixedOrders = true := by kernel_rfl
    have c5 := P5.cell
    have c3 := P3.cell
    have HQ6 := hide (rd_drew P6.rd)
    have hq9 : qs.length ≤ 1000000 := by omega
    have hlga := P3.lt
    have hw5 : (ofL qs).length ≤ 500000 := by have := ofL_len qs; omega
    have HWA := hide (show andL (ofL qs) allP = wideL g by have := h.wand; unfold wideL at this ⊢; rw [HQS.out]; exact this)
    have HA6 := hide (P4.mono hs0)
    have f2 := P2.frozen
    have hlgr := P2.lt
    have hKD : D < W.heap.size := (Array.getElem?_eq_some_iff.1 hK).1
    gi_wp2
    gi_region_with_o (first | (refine ⟨trivial, ?_⟩; gi_at_call 7; refine (callsIn_wide.2 (of_any _ qs W.drew HQ6.out hq9)).mono ?_; rintro e w5 ⟨v5, rfl, h5, hb5⟩; obtain ⟨A7, c7, hv7, -, -⟩ := h5.form; subst hv7; have hb5 := below_drew hb5; have H5 := hide h5; clear h5; have HA7 := hide ((HA6.out.below hb5).mono hb5.size); have ca7 := (P3.below hb5 P3.lt).cell) | (refine ⟨trivial, ?_⟩; gi_at_call 19; refine (callsIn_wide.2 (and_any _ _ (ofL qs) allP w5 H5.out HA7.out (ofL_nf qs) all_nf hw5 ha5)).mono ?_; rintro e w6 ⟨v6, rfl, h6, hb6⟩; rw [HWA.out] at h6; obtain ⟨A8, c8, hv8, -, -⟩ := h6.form; subst hv8; have H6 := hide h6; clear h6; have f6 := (P2.below (hb5.trans (hb6.mono hb5.size)) P2.lt).frozen; have c6 := (P2.below (hb5.trans (hb6.mono hb5.size)) P2.lt).cell; have l6 := (P2.below (hb5.trans (hb6.mono hb5.size)) P2.lt).lt))
    all_goals gi_wp2
    all_goals
      have hB6 := hB.trans ((hb5.trans (hb6.mono hb5.size)).mono hB.size)
      have hb56 := hb5.trans (hb6.mono hb5.size)
      have R2 := P2.below hb56 P2.lt
      have hK6 : w6.heap[D]? = some (.deferred (some [])) := (hb56.block D hKD).trans hK
      have R3 := rd_setcell (V' := .slice A8 (wideL g).length c8) H6.out R2 (fun z e => by cases e)
      exact leaveSU (g := gr) rfl (Nat.le_refl _) (by simpa using R2.set_ 0 _) (R3.keep (KeepsWalks.setCell w6 _ _).size (fun _ _ _ _ _ hc => hc)) ((KeepsOthers.setCell _ _ _).same D _ hK6 rfl) hD0 (below_set hB6 hr0 _)
  case stop =>
    rintro D c pre W _ _ h _
    exact h.elim

end Go.Proofs.YtfcbmajogmojbaaDoor
