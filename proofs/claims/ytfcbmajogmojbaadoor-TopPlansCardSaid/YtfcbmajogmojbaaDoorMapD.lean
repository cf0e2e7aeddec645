/-
  What a map's iterator yields.
-/
import Derived.RangeFuncNested
import Derived.RangeFuncBound
import Derived.RangeFuncCalls
import Derived.RangeFuncLeaves
import Derived.Shelf.Abstract
import Derived.Shelf.RegionOpen
import Derived.WalkKit
import Derived.OwnWalkIn
import Derived.TacticsInMore
import Derived.LoopNIn
import Derived.LoopIn
import Derived.Test.YtfcbmajogmojbaaDoorMapC
import Derived.Test.YtfcbmajogmojbaaDoorRngG
namespace Go.Proofs.YtfcbmajogmojbaaDoor
open Go.RowKit Go.Shelf
set_option linter.unusedVariables false
set_option linter.unusedSimpArgs false

attribute [local go_sem] Oper.semAt_some

set_option maxRecDepth 100000 in
set_option maxHeartbeats 1000000 in
theorem in_any (gm : Nat) (A : Option Addr) (n c : Nat) (a b : Int) (w : World) (hG : Blk w gm 58 #[.slice A n c]) : Calls Tryd.prog 51 #[.pointer (some ⟨gm, 0, none⟩), .agg #[.int .i64 a, .int .i64 b]] w fun e w' => e = .returned (.func (.func 70) #[] #[.pointer (some ⟨w.heap.size + 1, 0, none⟩), .pointer (some ⟨w.heap.size, 0, none⟩)]) ∧ w' = (w.alloc (.cells #[.int .i64 a, .int .i64 b] 31)).alloc (.cells #[.slice A n c] 56) := by
  have hmf : ∀ (fn : Fn) (first cap : Array Value) (w : World), (Instr.makeFunc fn first cap).run Tryd.prog w = .ok (.func fn first cap) w := fun _ _ _ _ => rfl
  have G1 := (hG.alloc (.cells #[.int .i64 a, .int .i64 b] 31)).alloc (.cells #[.slice none 0 0] 56)
  have cG := G1.cell
  clear hG G1
  go_enter Tryd.func51, Tryd.ntmps51
  go_wp2
  go_ret
  exact ⟨rfl, rfl⟩

set_option maxRecDepth 100000 in
set_option maxHeartbeats 1000000 in
theorem all_any (gm : Nat) (A : Option Addr) (n c : Nat) (w : World) (hG : Blk w gm 58 #[.slice A n c]) : Calls Tryd.prog 31 #[.pointer (some ⟨gm, 0, none⟩)] w fun e w' => e = .returned (.func (.func 70) #[] #[.pointer (some ⟨w.heap.size + 1, 0, none⟩), .pointer (some ⟨w.heap.size, 0, none⟩)]) ∧ w' = (w.alloc (.cells #[.int .i64 0, .int .i64 4611686018427387904] 31)).alloc (.cells #[.slice A n c] 56) := by
  go_enter Tryd.func31, Tryd.ntmps31
  go_wp2_with (go_at_call 51; refine (in_any gm A n c 0 4611686018427387904 w hG).mono ?_; rintro e w' ⟨rfl, rfl⟩)
  go_ret
  exact ⟨rfl, rfl⟩

/-- What lies below n, but for block b, lies as it lay. -/
def Exb (b n : Nat) (W W' : World) : Prop := W.heap.size ≤ W'.heap.size ∧ ∀ j, j < n → j ≠ b → W'.heap[j]? = W.heap[j]?
theorem Exb.refl (b n : Nat) (W : World) : Exb b n W W := ⟨Nat.le_refl _, fun _ _ _ => rfl⟩
theorem Exb.trans {b n : Nat} {A B C : World} (h : Exb b n A B) (k : Exb b n B C) : Exb b n A C := ⟨Nat.le_trans h.1 k.1, fun j h1 h2 => (k.2 j h1 h2).trans (h.2 j h1 h2)⟩
theorem Exb.of_below {b n C : Nat} {W W' : World} (h : Below C W W') (hn : n ≤ C) : Exb b n W W' := ⟨h.size, fun j h1 _ => h.block j (by omega)⟩
theorem Exb.put {b n : Nat} (W : World) (l : Nat) (o o' : Obj) (h : n ≤ l) : Exb b n W (W.putObj l o') := by
  have hg := grownBy_putObj' W l o'
  refine ⟨hg.size, fun j hj _ => ?_⟩
  rcases Nat.lt_or_ge j W.heap.size with h1 | h1
  · exact hg.block j h1 (by simp; omega)
  · have e2 : (W.putObj l o').heap.size = W.heap.size := by simp [World.putObj]
    rw [Array.getElem?_eq_none h1, Array.getElem?_eq_none (by omega)]
theorem Exb.set_ {b n : Nat} (W : World) (v : Value) : Exb b n W (W.setCell ⟨b, 0, none⟩ v) := ⟨(KeepsWalks.setCell W _ v).size, fun j _ h => Below.heap_setCell _ _ _ j h⟩
theorem Exb.cell {b n k off : Nat} {W W' : World} (h : Exb b n W W') (h1 : k < n) (h2 : k ≠ b) : W'.cell? ⟨k, off, none⟩ = W.cell? ⟨k, off, none⟩ := by
  simp [World.cell?, h.2 k h1 h2]
theorem Exb.blk {b n k : Nat} {t : TypeId} {cs : Array Value} {W W' : World} (h : Exb b n W W') (X : Blk W k t cs) (h1 : k < n) (h2 : k ≠ b) : Blk W' k t cs := (h.2 k h1 h2).trans X
theorem grown_of_below {a b : World} (h : Below a.heap.size a b) : a.grownBy b none := ⟨h.os, h.tape, h.output, h.size, fun i hi _ => h.block i hi⟩
theorem meet_all {x : Sp} (h : okS x) : meetL x (0, 4611686018427387904) = some x := by
  have h9 := ok_right h
  unfold okS at h
  unfold meetL
  simp only
  rw [show max x.1 0 = x.1 by omega, show min x.2 4611686018427387904 = x.2 by omega, if_pos ⟨h9, by decide, h.2.1⟩]

set_option maxRecDepth 100000 in
set_option maxHeartbeats 4000000 in
theorem in1_in (n : Nat) (hn : 1 ≤ n) (l gr gs n₂ bl c : Nat) (A : Option Addr) (rs : List Rn) (J Jx : List Rn → World → Prop)
    (hY : ∀ pre x W, J pre W → pre.length < rs.length → YieldAt Fence.wide (n - 1) Tryd.prog l #[.agg #[.int .i64 x.1.1, .int .i64 x.1.2], .int .u8 x.2] W fun e W' => (e = .returned (.bool true) ∧ J (pre ++ [x]) W' ∧ Exb bl n₂ W W') ∨ (e = .returned (.bool false) ∧ Jx (pre ++ [x]) W'))
    (W : World) (hgr : Blk W gr 56 #[.slice A rs.length c]) (hgs : Blk W gs 31 #[.int .i64 0, .int .i64 4611686018427387904]) (hsl : gs < n₂) (hsb : gs ≠ bl) (hv : RdL LRn W n₂ (.slice A rs.length c) rs) (hA1 : 0 < rs.length → ∀ b off, A = some ⟨b, off, none⟩ → b ≠ bl) (hok : ∀ r ∈ rs, okS r.1) (h0 : J [] W) (hJ : AbidesFrom W.heap.size J) (hn0 : n₂ ≤ W.heap.size) (hvl : rs.length ≤ 1000000) :
    CallsIn Fence.wide n Tryd.prog 70 #[.func (.yield l) #[] #[], .pointer (some ⟨gr, 0, none⟩), .pointer (some ⟨gs, 0, none⟩)] W fun e W' => (∃ v, e = .returned v) ∧
      ((∃ ys, ys = rs ∧ J ys W') ∨ (∃ pre, pre <+: rs ∧ Jx pre W')) := by
  refine callsIn_of_wp Tryd.func70 rfl trivial ?_ rfl
  simp only [Tryd.ntmps70, List.size_toArray, List.length_cons, List.length_nil, Nat.reduceAdd, Nat.reduceSub, Array.replicate_succ, Array.replicate_zero, List.push_toArray, List.append_toArray, List.nil_append, List.cons_append]
  have cR0 := hgr.cell
  have cS0 := hgs.cell
  gi_wp2
  clear cR0 cS0
  gi_loopw [5, 6, 7, 10] (fun _ _ _ i wr => ∃ k : Nat, k ≤ rs.length ∧ i = .int .i64 (k : Int) ∧ J (rs.take k) wr ∧ Exb bl n₂ W wr) (fun _ _ _ i _ => rs.length - (intOf i).toNat)
  case atStart => exact ⟨0, Nat.zero_le _, rfl, h0, Exb.refl _ _ _⟩
  case round =>
    clear h0
    obtain ⟨k, hk, rfl, hJs, hnx⟩ := hrel
    by_cases hlt : k < rs.length
    · obtain ⟨b0, off, hA, hb0, p0, p1, p2⟩ := hv.run_ k hlt
      subst hA
      have hbb := hA1 (by omega) b0 off rfl
      obtain ⟨rf, rt, rv, hx⟩ : ∃ x0 x1 x2 : Int, rs[k] = ((x0, x1), x2) := ⟨_, _, _, rfl⟩
      have hokk := hok rs[k] (List.getElem_mem hlt)
      have htk := List.take_succ_eq_append_getElem hlt
      rw [hx] at p0 p1 p2 hokk htk
      simp only at p0 p1 p2 hokk
      have e0 : wr.cell? ⟨b0, off + k * 3, none⟩ = some (.int .i64 rf) := by rw [hnx.cell hb0 hbb]; exact p0
      have e1 : wr.cell? ⟨b0, off + k * 3 + 1, none⟩ = some (.int .i64 rt) := by rw [hnx.cell hb0 hbb]; exact p1
      have e2 : wr.cell? ⟨b0, off + k * 3 + 2, none⟩ = some (.int .u8 rv) := by rw [hnx.cell hb0 hbb]; exact p2
      have S := hnx.blk hgs hsl hsb
      have hw2 := hnx.1
      have cS := (S.alloc (.cells #[.int .i64 rf, .int .i64 rt, .int .u8 rv] 65)).cell
      have HTK := hide htk
      have HX := hide hx
      have hM := fun W9 : World => smeet_any rf rt 0 4611686018427387904 W9
      rw [show meetL (rf, rt) (0, 4611686018427387904) = some (rf, rt) from meet_all hokk] at hM
      have HM := hide hM
      clear hM htk hx p0 p1 p2 hokk
      gi_wp2
      refine ⟨trivial, ?_⟩
      refine (callsIn_wide.2 (HM.out _)).mono ?_
      rintro e w5 ⟨he, hb5⟩
      subst he
      have hB5 : Below wr.heap.size wr w5 := (((Below.refl _ _).alloc (Nat.le_refl _) _)).trans (hb5.mono (by simp))
      have X := (Blk.new wr 65 #[.int .i64 rf, .int .i64 rt, .int .u8 rv]).below hb5 (by simp)
      have hJ6 : J (rs.take k) (w5.alloc (.cells #[.int .i64 rf, .int .i64 rt] 31)) := hJ _ wr _ none hJs (grown_of_below (hB5.alloc hB5.size _)) (fun r e => by cases e)
      have hn6 : Exb bl n₂ W (w5.alloc (.cells #[.int .i64 rf, .int .i64 rt] 31)) := hnx.trans (Exb.of_below (hB5.alloc hB5.size _) (Nat.le_trans hn0 hnx.1))
      obtain ⟨fn, tmps, assign, body, hy, hR⟩ := hY (rs.take k) ((rf, rt), rv) _ hJ6 (by rw [List.length_take]; omega)
      dsimp only at hy
      have cX := (X.alloc (.cells #[.int .i64 rf, .int .i64 rt] 31)).cell
      clear hJs hnx hB5 hb5 cS S HM e0 e1 e2
      gi_wp2
      refine hR.mono ?_
      clear hR hy
      rintro e W3 (⟨rfl, hJ3, hk3⟩ | ⟨rfl, hJx3⟩)
      · have hn7 := hn6.trans hk3
        rw [← HTK.out] at hJ3
        clear hJ6 hn6 hk3 cX X
        gi_wp2
        go_roundw
        case rel => exact ⟨k + 1, by omega, by go_num, hJ3, hn7⟩
        case measure => simp [intOf]; omega
      · rw [← HTK.out] at hJx3
        gi_wp2
        refine bodyPost_ret (results_none rfl _ _ _) rfl ?_
        exact ⟨⟨_, rfl⟩, .inr ⟨_, List.take_prefix _ _, hJx3⟩⟩
    · obtain rfl : k = rs.length := by omega
      rw [List.take_length] at hJs
      gi_wp2
      go_end0
      exact ⟨⟨_, rfl⟩, .inl ⟨_, rfl, hJs⟩⟩

/-- What a map's iterator hands to a range: its runs, in order. -/
theorem all_stops (n : Nat) (hn : 1 ≤ n) (gr gs bl c : Nat) (A : Option Addr) (rs : List Rn) (w : World) (hgr : Blk w gr 56 #[.slice A rs.length c]) (hgs : Blk w gs 31 #[.int .i64 0, .int .i64 4611686018427387904]) (hrb : gr ≠ bl) (hsb : gs ≠ bl) (hv : RdL LRn w w.heap.size (.slice A rs.length c) rs) (hA1 : 0 < rs.length → ∀ b off, A = some ⟨b, off, none⟩ → b ≠ bl) (hok : ∀ r ∈ rs, okS r.1) (hvl : rs.length ≤ 1000000) :
    SeqStopsK Fence.wide n Tryd.prog 70 #[.pointer (some ⟨gr, 0, none⟩), .pointer (some ⟨gs, 0, none⟩)] (fun x : Rn => #[.agg #[.int .i64 x.1.1, .int .i64 x.1.2], .int .u8 x.2]) (Exb bl w.heap.size) (fun ys => ys = rs) (fun pre => pre <+: rs) rs.length w := fun l J Jx W hW hJ _ hY h0 =>
  in1_in n hn l gr gs w.heap.size bl c A rs J Jx hY W (hgr.below hW hgr.lt) (hgs.below hW hgs.lt) hgs.lt hsb (hv.below hW) hA1 hok h0 hJ hW.size hvl

end Go.Proofs.YtfcbmajogmojbaaDoor
