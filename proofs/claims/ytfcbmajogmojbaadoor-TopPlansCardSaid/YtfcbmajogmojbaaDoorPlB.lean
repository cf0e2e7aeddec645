/-
  What a set's iterator yields.
-/
import Derived.RangeFuncNested
import Derived.RangeFuncBound
import Derived.RangeFuncCalls
import Derived.RangeFuncLeaves
import Derived.Shelf.Abstract
import Derived.Shelf.RegionOpen
import Derived.WalkKit
import Derived.OwnWalkIn
import Derived.TacticsInMore
import Derived.LoopNIn
import Derived.LoopIn
import Derived.Test.YtfcbmajogmojbaaDoorMapE
import Derived.Test.YtfcbmajogmojbaaDoorRngG
namespace Go.Proofs.YtfcbmajogmojbaaDoor
open Go.RowKit Go.Shelf
set_option linter.unusedVariables false
set_option linter.unusedSimpArgs false

attribute [local go_sem] Oper.semAt_some

abbrev SpX := { x : Sp // okS x ∧ x.2 ≤ 120 }
theorem spx_of : ∀ {l : List Sp}, (∀ x ∈ l, okS x ∧ x.2 ≤ 120) → ∃ m : List SpX, m.map (·.1) = l
  | [], _ => ⟨[], rfl⟩
  | x :: l, h => by
    obtain ⟨m, hm⟩ := spx_of (l := l) fun y hy => h y (List.mem_cons_of_mem _ hy)
    exact ⟨⟨x, h x (List.mem_cons_self ..)⟩ :: m, by rw [List.map_cons, hm]⟩

set_option maxRecDepth 100000 in
set_option maxHeartbeats 1000000 in
theorem setall_any (A : Option Addr) (n c : Nat) (w : World) : Calls Tryd.prog 71 #[.agg #[.slice A n c]] w fun e w' => e = .returned (.func (.func 80) #[] #[.pointer (some ⟨w.heap.size, 0, none⟩)]) ∧ w' = w.alloc (.cells #[.slice A n c] 28) := by
  have hmf : ∀ (fn : Fn) (first cap : Array Value) (w : World), (Instr.makeFunc fn first cap).run Tryd.prog w = .ok (.func fn first cap) w := fun _ _ _ _ => rfl
  go_enter Tryd.func71, Tryd.ntmps71
  go_wp2
  go_ret
  exact ⟨rfl, rfl⟩

set_option maxRecDepth 100000 in
set_option maxHeartbeats 4000000 in
theorem setall_in (n : Nat) (hn : 1 ≤ n) (l gr n₂ bl c : Nat) (A : Option Addr) (ss : List SpX) (J Jx : List SpX → World → Prop)
    (hY : ∀ pre x W, J pre W → pre.length < ss.length → YieldAt Fence.wide (n - 1) Tryd.prog l #[.agg #[.int .i64 x.1.1, .int .i64 x.1.2]] W fun e W' => (e = .returned (.bool true) ∧ J (pre ++ [x]) W' ∧ Exb bl n₂ W W') ∨ (e = .returned (.bool false) ∧ Jx (pre ++ [x]) W'))
    (W : World) (hgr : Blk W gr 28 #[.slice A ss.length c]) (hv : RdL LSp W n₂ (.slice A ss.length c) (ss.map (·.1))) (hA1 : 0 < ss.length → ∀ b off, A = some ⟨b, off, none⟩ → b ≠ bl) (h0 : J [] W) (hJ : AbidesFrom W.heap.size J) (hn0 : n₂ ≤ W.heap.size) (hvl : ss.length ≤ 1000000) :
    CallsIn Fence.wide n Tryd.prog 80 #[.func (.yield l) #[] #[], .pointer (some ⟨gr, 0, none⟩)] W fun e W' => (∃ v, e = .returned v) ∧
      ((∃ ys, ys = ss ∧ J ys W') ∨ (∃ pre, pre <+: ss ∧ Jx pre W')) := by
  refine callsIn_of_wp Tryd.func80 rfl trivial ?_ rfl
  simp only [Tryd.ntmps80, List.size_toArray, List.length_cons, List.length_nil, Nat.reduceAdd, Nat.reduceSub, Array.replicate_succ, Array.replicate_zero, List.push_toArray, List.append_toArray, List.nil_append, List.cons_append]
  have cR0 := hgr.cell
  gi_wp2
  clear cR0
  gi_loopw [4, 8] (fun _ i wr => ∃ k : Nat, k ≤ ss.length ∧ i = .int .i64 (k : Int) ∧ J (ss.take k) wr ∧ Exb bl n₂ W wr) (fun _ i _ => ss.length - (intOf i).toNat)
  case atStart => exact ⟨0, Nat.zero_le _, rfl, h0, Exb.refl _ _ _⟩
  case round =>
    clear h0
    obtain ⟨k, hk, rfl, hJs, hnx⟩ := hrel
    by_cases hlt : k < ss.length
    · obtain ⟨b0, off, hA, hb0, p0, p1⟩ := hv.span k (by simpa using hlt)
      subst hA
      rw [List.getElem_map] at p0 p1
      have hbb := hA1 (by omega) b0 off rfl
      have htk := List.take_succ_eq_append_getElem hlt
      obtain ⟨⟨⟨sf, sto⟩, hoX⟩, hx⟩ : ∃ x0 : SpX, ss[k] = x0 := ⟨_, rfl⟩
      rw [hx] at p0 p1 htk
      simp only at p0 p1
      have e0 : wr.cell? ⟨b0, off + k * 2, none⟩ = some (.int .i64 sf) := by rw [hnx.cell hb0 hbb]; exact p0
      have e1 : wr.cell? ⟨b0, off + k * 2 + 1, none⟩ = some (.int .i64 sto) := by rw [hnx.cell hb0 hbb]; exact p1
      have hJ6 : J (ss.take k) (wr.alloc (.cells #[.int .i64 sf, .int .i64 sto] 31)) := hJ _ wr _ none hJs (grown_of_below ((Below.refl _ _).alloc (Nat.le_refl _) _)) (fun r e => by cases e)
      have hn6 : Exb bl n₂ W (wr.alloc (.cells #[.int .i64 sf, .int .i64 sto] 31)) := hnx.trans (Exb.of_below ((Below.refl _ _).alloc (Nat.le_refl _) _) (Nat.le_trans hn0 hnx.1))
      obtain ⟨fn, tmps, assign, body, hy, hR⟩ := hY (ss.take k) ⟨(sf, sto), hoX⟩ _ hJ6 (by rw [List.length_take]; omega)
      dsimp only at hy
      have cX := (Blk.new wr 31 #[.int .i64 sf, .int .i64 sto]).cell
      have HTK := hide htk
      have HX := hide hx
      clear hJs hnx htk hx p0 p1
      gi_wp2
      refine hR.mono ?_
      clear hR hy e0 e1
      rintro e W3 (⟨rfl, hJ3, hk3⟩ | ⟨rfl, hJx3⟩)
      · have hn7 := hn6.trans hk3
        rw [← HTK.out] at hJ3
        clear hJ6 hn6 hk3 cX
        gi_wp2
        go_roundw
        case rel => exact ⟨k + 1, by omega, by go_num, hJ3, hn7⟩
        case measure => simp [intOf]; omega
      · rw [← HTK.out] at hJx3
        gi_wp2
        refine bodyPost_ret (results_none rfl _ _ _) rfl ?_
        exact ⟨⟨_, rfl⟩, .inr ⟨_, List.take_prefix _ _, hJx3⟩⟩
    · obtain rfl : k = ss.length := by omega
      rw [List.take_length] at hJs
      gi_wp2
      go_end0
      exact ⟨⟨_, rfl⟩, .inl ⟨_, rfl, hJs⟩⟩

/-- What a set's iterator hands to a range: its spans, in order. -/
theorem setall_stops (n : Nat) (hn : 1 ≤ n) (gr bl c : Nat) (A : Option Addr) (ss : List SpX) (w : World) (hgr : Blk w gr 28 #[.slice A ss.length c]) (hv : RdL LSp w w.heap.size (.slice A ss.length c) (ss.map (·.1))) (hA1 : 0 < ss.length → ∀ b off, A = some ⟨b, off, none⟩ → b ≠ bl) (hvl : ss.length ≤ 1000000) :
    SeqStopsK Fence.wide n Tryd.prog 80 #[.pointer (some ⟨gr, 0, none⟩)] (fun x : SpX => #[.agg #[.int .i64 x.1.1, .int .i64 x.1.2]]) (Exb bl w.heap.size) (fun ys => ys = ss) (fun pre => pre <+: ss) ss.length w := fun l J Jx W hW hJ _ hY h0 =>
  setall_in n hn l gr w.heap.size bl c A ss J Jx hY W (hgr.below hW hgr.lt) (hv.below hW) hA1 h0 hJ hW.size hvl

end Go.Proofs.YtfcbmajogmojbaaDoor
