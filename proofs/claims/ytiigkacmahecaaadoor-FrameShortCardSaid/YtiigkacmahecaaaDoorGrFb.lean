/-
  Merged: FrB, FrC, FrD.
-/
import Derived.Test.YtiigkacmahecaaaDoorGrFr
import Derived.Test.YtiigkacmahecaaaDoorGrTs
import Derived.Test.YtiigkacmahecaaaDoorGrF
import Derived.RangeFuncNested
import Derived.RangeFuncBound
import Derived.RangeFuncCalls
import Derived.RangeFuncLeaves
import Derived.Shelf.Abstract
import Derived.Shelf.RegionOpen
import Derived.WalkKit
import Derived.OwnWalkIn
import Derived.TacticsInMore
import Derived.LoopNIn
import Derived.LoopIn
import Derived.Test.YtiigkacmahecaaaDoorGrTp
namespace Go.Proofs.YtiigkacmahecaaaDoor
open Go.RowKit
set_option linter.unusedVariables false
set_option linter.unusedSimpArgs false

def ItemsOk (vs : List Bs) (w : World) (e : Ending) (w' : World) : Prop := ∃ (g : Nat) (A : Option Addr) (c : Nat), e = .returned (.func (.func 45) #[] #[.pointer (some ⟨g, 0, none⟩)]) ∧ w.heap.size ≤ g ∧ Blk w' g 64 #[.slice A vs.length c] ∧ RdL LW w' w'.heap.size (.slice A vs.length c) vs ∧ (∀ b off, A = some ⟨b, off, none⟩ → w.heap.size ≤ b) ∧ Below w.heap.size w w'

theorem own_at {B : Nat} {w : World} {A : Option Addr} {n c b off : Nat} {l : List Bs} (h : OwnL LW B w (.slice A n c) l) (e : A = some ⟨b, off, none⟩) : B ≤ b := by
  subst e
  rcases h.2 with ⟨h1, _⟩ | ⟨g, cap, cur, h1, hb, _, _⟩
  · cases h1
  · simp at h1
    omega

set_option maxRecDepth 100000 in
set_option maxHeartbeats 2000000 in
theorem items_any (v : Value) (vs : List Bs) (w : World) (hr : RdL LW w w.heap.size v vs) (hl : vs.length ≤ 1000000) : Calls Tryd.prog 28 #[v] w (ItemsOk vs w) := by
  obtain ⟨A, c, rfl, hlc, hc⟩ := hr.form
  have HR := hide hr
  clear hr
  go_enter Tryd.func28, Tryd.ntmps28
  go_wp2_with (at_builtin; refine wpList_appL LW w (by rfl) (.const (.slice none 0 0)) (.tmp 4) _ _ (by rfl) rfl rfl w.heap.size _ ([] : List Bs) (by rfl) (OwnL.nil _ _ _) (Below.refl _ _) (Nat.le_refl _) _ vs _ (by rfl) HR.out (by decide) (by simp; omega) ?_; intro v1 w1 O1 hB1 _ _; rw [List.nil_append] at O1; obtain ⟨A1, c1, hv, _, _⟩ := O1.rd.form; subst hv)
  go_ret
  exact ⟨_, A1, c1, rfl, hB1.size, Blk.new _ _ _, ((O1.alloc _).rd), fun b off e => own_at O1 e, hB1.alloc hB1.size _⟩

end Go.Proofs.YtiigkacmahecaaaDoor
namespace Go.Proofs.YtiigkacmahecaaaDoor
open Go.RowKit Go.Shelf
set_option linter.unusedVariables false
set_option linter.unusedSimpArgs false

attribute [local go_sem] Oper.semAt_some

/-- A text that is no longer than a machine holds. -/
abbrev StrX := { s : ByteArray // s.size ≤ 4611686018427387903 }
def bts (l : List StrX) : List Bs := l.map fun x => x.1.data.toList
theorem bts_app (a b : List StrX) : bts (a ++ b) = bts a ++ bts b := List.map_append
theorem bts_len (a : List StrX) : (bts a).length = a.length := List.length_map _
/-- What lies from n₁ on, ahead of n₂, lies as it lay. -/
def Mid (n₁ n₂ : Nat) (W W' : World) : Prop := W.heap.size ≤ W'.heap.size ∧ ∀ j, n₁ ≤ j → j < n₂ → W'.heap[j]? = W.heap[j]?
theorem Mid.refl (n₁ n₂ : Nat) (W : World) : Mid n₁ n₂ W W := ⟨Nat.le_refl _, fun _ _ _ => rfl⟩
theorem Mid.trans {n₁ n₂ : Nat} {A B C : World} (h : Mid n₁ n₂ A B) (k : Mid n₁ n₂ B C) : Mid n₁ n₂ A C := ⟨Nat.le_trans h.1 k.1, fun j a b => (k.2 j a b).trans (h.2 j a b)⟩
theorem Mid.of_below {n₁ n₂ C : Nat} {W W' : World} (h : Below C W W') (hn : n₂ ≤ C) : Mid n₁ n₂ W W' := ⟨h.size, fun j _ hj => h.block j (by omega)⟩
theorem Mid.put {n₁ n₂ : Nat} (W : World) (l : Nat) (o o' : Obj) (h : n₂ ≤ l) : Mid n₁ n₂ W (W.putObj l o') := by
  have hg := grownBy_putObj' W l o'
  refine ⟨hg.size, fun j _ hj => ?_⟩
  rcases Nat.lt_or_ge j W.heap.size with h1 | h1
  · exact hg.block j h1 (by simp; omega)
  · have e2 : (W.putObj l o').heap.size = W.heap.size := by simp [World.putObj]
    rw [Array.getElem?_eq_none h1, Array.getElem?_eq_none (by omega)]
theorem Mid.set_ {n₁ n₂ b : Nat} (W : World) (v : Value) (h : b < n₁) : Mid n₁ n₂ W (W.setCell ⟨b, 0, none⟩ v) := ⟨(KeepsWalks.setCell W _ v).size, fun j a _ => Below.heap_setCell _ _ _ j (by show j ≠ b; omega)⟩
theorem Mid.cell {n₁ n₂ b off : Nat} {W W' : World} (h : Mid n₁ n₂ W W') (h1 : n₁ ≤ b) (h2 : b < n₂) : W'.cell? ⟨b, off, none⟩ = W.cell? ⟨b, off, none⟩ := by
  simp [World.cell?, h.2 b h1 h2]
theorem grown_of_below {a b : World} (h : Below a.heap.size a b) : a.grownBy b none := ⟨h.os, h.tape, h.output, h.size, fun i hi _ => h.block i hi⟩
theorem trim_le (l : Bs) : (trimB l).length ≤ l.length := trim_size l
theorem itemsAt_over {s : Bs} {k : Nat} (h : s.length ≤ k) : itemsAt s k = [] := by
  unfold itemsAt
  rw [List.drop_of_length_le h]
  rfl
theorem itemsAt_next (s : Bs) (k : Nat) : itemsAt s k = keepV (trimB ((s.drop k).take (endQ false false (s.drop k)))) ++ itemsAt s (k + endQ false false (s.drop k) + 1) := by
  have h := endQ_le (s.drop k) false false
  by_cases h1 : endQ false false (s.drop k) = (s.drop k).length
  · rw [itemsAt_last h1, h1, List.take_length, itemsAt_over (by rw [List.length_drop]; omega), List.append_nil]
  · exact itemsAt_more (by omega)
theorem keepV_none {x : Bs} (h : x = []) : keepV x = [] := by rw [h]; rfl
theorem keepV_some {x : Bs} (h : x ≠ []) : keepV x = [x] := by
  unfold keepV
  cases x
  · exact absurd rfl h
  · rfl
theorem itemsV_cons {vs : List Bs} {k : Nat} (h : k < vs.length) : itemsV (vs.drop k) = itemsAt vs[k] 0 ++ itemsV (vs.drop (k + 1)) := by
  rw [List.drop_eq_getElem_cons h, show vs[k] :: vs.drop (k + 1) = [vs[k]] ++ vs.drop (k + 1) from rfl, itemsV_app, itemsV_one]
  rfl

set_option maxRecDepth 100000 in
set_option maxHeartbeats 4000000 in
theorem items1_in (n : Nat) (hn : 1 ≤ n) (l g n₁ n₂ c : Nat) (A : Option Addr) (vs : List Bs) (J Jx : List StrX → World → Prop)
    (hY : ∀ pre x W, J pre W → pre.length < (itemsV vs).length → YieldAt Fence.wide (n - 1) Tryd.prog l #[.string x.1] W fun e W' => (e = .returned (.bool true) ∧ J (pre ++ [x]) W' ∧ Mid n₁ n₂ W W') ∨ (e = .returned (.bool false) ∧ Jx (pre ++ [x]) W'))
    (W : World) (hg : W.cell? ⟨g, 0, none⟩ = some (.slice A vs.length c)) (hv : RdL LW W n₂ (.slice A vs.length c) vs) (hA1 : ∀ b off, A = some ⟨b, off, none⟩ → n₁ ≤ b) (hz : ∀ x ∈ vs, x.length ≤ 4611686018427387903) (h0 : J [] W) (hJ : AbidesFrom W.heap.size J) (hn0 : n₂ ≤ W.heap.size) (hvl : vs.length ≤ 1000000) :
    CallsIn Fence.wide n Tryd.prog 45 #[.func (.yield l) #[] #[], .pointer (some ⟨g, 0, none⟩)] W fun e W' => (∃ v, e = .returned v) ∧
      ((∃ ys, bts ys = itemsV vs ∧ J ys W') ∨ (∃ pre, bts pre <+: itemsV vs ∧ Jx pre W')) := by
  refine callsIn_of_wp Tryd.func45 rfl trivial ?_ rfl
  simp only [Tryd.ntmps45, List.size_toArray, List.length_cons, List.length_nil, Nat.reduceAdd, Nat.reduceSub, Array.replicate_succ, Array.replicate_zero, List.push_toArray, List.append_toArray, List.nil_append, List.cons_append]
  gi_wp2
  gi_loopw [4, 5, 6, 7, 10] (fun _ _ _ _ i wr => ∃ (k : Nat) (pre : List StrX), k ≤ vs.length ∧ i = .int .i64 (k : Int) ∧ Hid (bts pre ++ itemsV (vs.drop k) = itemsV vs) ∧ J pre wr ∧ Mid n₁ n₂ W wr) (fun _ _ _ _ i _ => vs.length - (intOf i).toNat)
  case atStart => exact ⟨0, [], Nat.zero_le _, rfl, by rfl, h0, Mid.refl _ _ _⟩
  case round =>
    obtain ⟨k, pre, hk, rfl, HI, hJs, hnx⟩ := hrel
    by_cases hlt : k < vs.length
    · obtain ⟨b0, off, hA, hb0, c0⟩ := hv.text k hlt
      subst hA
      obtain ⟨s, hsx⟩ : ∃ s : ByteArray, s = ⟨vs[k].toArray⟩ := ⟨_, rfl⟩
      rw [← hsx] at c0
      have hsl : s.data.toList = vs[k] := by rw [hsx]
      have hs : s.size ≤ 4611686018427387903 := by rw [← lsize, hsl]; exact hz _ (List.getElem_mem hlt)
      have d0 : wr.cell? ⟨b0, off + k, none⟩ = some (.string s) := by rw [hnx.cell (hA1 b0 off rfl) hb0]; exact c0
      have HI0 := hide (show bts pre ++ (itemsAt s.data.toList 0 ++ itemsV (vs.drop (k + 1))) = itemsV vs by rw [hsl, ← itemsV_cons hlt]; exact HI.out)
      clear hsx hsl HI c0
      gi_wp2
      gi_loopw [5, 6, 7] (fun c5 _ _ wr => ∃ (b : Nat) (pre : List StrX), c5 = .int .i64 (b : Int) ∧ b ≤ s.size + 1 ∧ Hid (bts pre ++ (itemsAt s.data.toList b ++ itemsV (vs.drop (k + 1))) = itemsV vs) ∧ J pre wr ∧ Mid n₁ n₂ W wr) (fun c5 _ _ _ => s.size + 1 - (intOf c5).toNat)
      case atStart => exact ⟨0, pre, rfl, by omega, HI0, hJs, hnx⟩
      case round =>
        clear HI0 hJs hnx
        obtain ⟨b, pre, rfl, hb, HI, hJs, hnx⟩ := hrel
        by_cases hle : b ≤ s.size
        · obtain ⟨E, hE⟩ : ∃ E, E = endQ false false (s.data.toList.drop b) := ⟨_, rfl⟩
          have hEl := endQ_le (s.data.toList.drop b) false false
          rw [← hE, List.length_drop, lsize] at hEl
          have hnext := itemsAt_next s.data.toList b
          rw [← hE] at hnext
          have hbE1 : b ≤ b + E := by omega
          have hbE2 : b + E ≤ s.size := by omega
          obtain ⟨u, hu⟩ : ∃ u, u = s.extract b (b + E) := ⟨_, rfl⟩
          have hul : u.data.toList = (s.data.toList.drop b).take E := by rw [hu, Lib.extract_data, show b + E - b = E by omega]
          have husz : u.size ≤ 4611686018427387903 := by have : u.size = u.data.toList.length := (lsize u).symm; rw [this, hul, List.length_take, List.length_drop, lsize]; omega
          rw [← hul] at hnext
          have HU := hide hu
          have hC := itemend_any s b hle hs wr
          rw [← hE] at hC
          have HN := hide hnext
          clear hE hul hnext hu
          gi_wp2_with (refine ⟨trivial, ?_⟩; gi_at_call 46; refine (callsIn_wide.2 hC).mono ?_; rintro e w' ⟨rfl, rfl⟩; clear hC)
          rw [← HU.out]
          refine ⟨trivial, ?_⟩
          refine (callsIn_wide.2 (trim_any u wr (by omega))).mono ?_
          rintro e w5 ⟨t, ht, rfl, hb5⟩
          have htz : t.size ≤ 4611686018427387903 := by have h1 := trim_le u.data.toList; rw [← ht, lsize, lsize] at h1; omega
          have hJ5 : J pre w5 := hJ pre wr w5 none hJs (grown_of_below hb5) (fun r e => by cases e)
          have hn5 : Mid n₁ n₂ W w5 := hnx.trans (Mid.of_below hb5 (Nat.le_trans hn0 hnx.1))
          rw [← ht] at HN
          clear hJs hnx ht HU
          by_cases ht0 : t = ⟨#[]⟩
          · have HX := hide (show bts pre ++ (itemsAt s.data.toList (b + E + 1) ++ itemsV (vs.drop (k + 1))) = itemsV vs by
              have := HI.out
              rw [HN.out, keepV_none (by rw [ht0]), List.nil_append] at this
              exact this)
            subst ht0
            gi_wp2
            refine ⟨fun _ h => (by cases h), ?_⟩
            gi_wp2
            go_roundw
            case rel => exact ⟨b + E + 1, pre, by go_num, by omega, HX, hJ5, hn5⟩
            case measure => simp [intOf]; omega
          · have hne : t.data.toList ≠ [] := fun h => ht0 (ByteArray.ext (Array.toList_inj.1 h))
            have hemp : t.toList.isEmpty = false := by rw [ByteArray.toList_eq]; cases hl : t.data.toList with | nil => exact absurd hl hne | cons _ _ => rfl
            have HX := hide (show bts (pre ++ [⟨t, htz⟩]) ++ (itemsAt s.data.toList (b + E + 1) ++ itemsV (vs.drop (k + 1))) = itemsV vs by
              have := HI.out
              rw [HN.out, keepV_some hne] at this
              rw [bts_app, ← this]
              simp [bts])
            obtain ⟨fn, tmps, assign, body, hy, hR⟩ := hY pre ⟨t, htz⟩ w5 hJ5 (by rw [← HX.out]; simp [bts])
            dsimp only at hy
            clear HI HN hne ht0
            gi_wp2
            refine hR.mono ?_
            clear hR hy
            rintro e W3 (⟨rfl, hJ3, hk3⟩ | ⟨rfl, hJx3⟩)
            · have hn6 := hn5.trans hk3
              clear hJ5 hn5 hk3
              gi_wp2
              go_roundw
              case rel => exact ⟨b + E + 1, pre ++ [⟨t, htz⟩], by go_num, by omega, HX, hJ3, hn6⟩
              case measure => simp [intOf]; omega
            · gi_wp2
              refine bodyPost_ret (results_none rfl _ _ _) rfl ?_
              exact ⟨⟨_, rfl⟩, .inr ⟨_, ⟨_, HX.out⟩, hJx3⟩⟩
        · have HX := hide (show bts pre ++ itemsV (vs.drop (k + 1)) = itemsV vs by
            have := HI.out
            rw [itemsAt_over (by rw [lsize]; omega), List.nil_append] at this
            exact this)
          clear HI
          gi_wp2
          go_roundw
          case rel => exact ⟨k + 1, pre, by omega, by go_num, HX, hJs, hnx⟩
          case measure => simp [intOf]; omega
    · obtain rfl : k = vs.length := by omega
      gi_wp2
      go_end0
      exact ⟨⟨_, rfl⟩, .inl ⟨pre, by have := HI.out; rw [List.drop_length] at this; simpa [itemsV] using this, hJs⟩⟩

/-- What the closure over a list's values hands to a range: its items, in order. -/
theorem items_stops (n : Nat) (hn : 1 ≤ n) (g n₁ c : Nat) (A : Option Addr) (vs : List Bs) (w : World) (hg : Blk w g 64 #[.slice A vs.length c]) (hv : RdL LW w w.heap.size (.slice A vs.length c) vs) (hA1 : ∀ b off, A = some ⟨b, off, none⟩ → n₁ ≤ b) (hz : ∀ x ∈ vs, x.length ≤ 4611686018427387903) (hvl : vs.length ≤ 1000000) :
    SeqStopsK Fence.wide n Tryd.prog 45 #[.pointer (some ⟨g, 0, none⟩)] (fun x : StrX => #[Value.string x.1]) (Mid n₁ w.heap.size) (fun ys => bts ys = itemsV vs) (fun pre => bts pre <+: itemsV vs) (itemsV vs).length w := fun l J Jx W hW hJ _ hY h0 =>
  items1_in n hn l g n₁ w.heap.size c A vs J Jx hY W ((hW.cell (p := ⟨g, 0, none⟩) hg.lt).trans (hg.cell 0)) (hv.below hW) hA1 hz h0 hJ hW.size hvl

end Go.Proofs.YtiigkacmahecaaaDoor
namespace Go.Proofs.YtiigkacmahecaaaDoor
open Go.RowKit Go.Shelf
set_option linter.unusedVariables false
set_option linter.unusedSimpArgs false

attribute [local go_sem] Oper.semAt_some

def EndOk (m : EndM) (w : World) (e : Ending) (w' : World) : Prop := e = .returned (.tuple #[.int .i64 m.k, .int .i64 m.n, .int .i64 m.e]) ∧ Below w.heap.size w w'
theorem blk_own {A B : World} {row : Option Nat} {g : Nat} {t : TypeId} {cs : Array Value} (h : Blk A g t cs) (hg : A.grownBy B row) (hr : ∀ r, row = some r → ∃ o : Obj, A.heap[r]? = some o ∧ o.isCells = false) : Blk B g t cs :=
  (hg.block g h.lt (fun e => by
    obtain ⟨o, ho, hc⟩ := hr g e.symm
    rw [show A.heap[g]? = _ from h] at ho
    cases ho
    cases hc)).trans h
theorem three_run {W : World} {tm : Array Value} {g4 g5 g6 : Nat} {a b c : Int} (h4 : tm[4]?.getD undef = .pointer (some ⟨g4, 0, none⟩)) (h5 : tm[5]?.getD undef = .pointer (some ⟨g5, 0, none⟩)) (h6 : tm[6]?.getD undef = .pointer (some ⟨g6, 0, none⟩))
    (R4 : Blk W g4 3 #[.int .i64 a]) (R5 : Blk W g5 2 #[.int .i64 b]) (R6 : Blk W g6 25 #[.int .i64 c]) : (results Tryd.f12 tm).run Tryd.prog W = .ok (.tuple #[.int .i64 a, .int .i64 b, .int .i64 c]) W := by
  have c4 : W.cell? ⟨g4, 0, none⟩ = some (.int .i64 a) := R4.cell 0
  have c5 : W.cell? ⟨g5, 0, none⟩ = some (.int .i64 b) := R5.cell 0
  have c6 : W.cell? ⟨g6, 0, none⟩ = some (.int .i64 c) := R6.cell 0
  simp [results, Tryd.f12, go_sem, h4, h5, h6, c4, c5, c6]

theorem leave0 {n : Nat} {w W : World} {tm : Array Value} {g4 g5 g6 : Nat} {a b c : Int} {m : EndM} (hm : m = ⟨a, b, c⟩) (h4 : tm[4]?.getD undef = .pointer (some ⟨g4, 0, none⟩)) (h5 : tm[5]?.getD undef = .pointer (some ⟨g5, 0, none⟩)) (h6 : tm[6]?.getD undef = .pointer (some ⟨g6, 0, none⟩))
    (R4 : Blk W g4 3 #[.int .i64 a]) (R5 : Blk W g5 2 #[.int .i64 b]) (R6 : Blk W g6 25 #[.int .i64 c]) (hB : Below w.heap.size w W) : LeavesInM Fence.wide n Tryd.prog Tryd.f12 tm (EndOk m w) [] .returning W := by
  subst hm
  exact ⟨_, three_run h4 h5 h6 R4 R5 R6, rfl, hB⟩
theorem put_blk {W : World} {D g : Nat} {t : TypeId} {cs : Array Value} (h : Blk W g t cs) (hK : W.heap[D]? = some (.deferred (some []))) : Blk (W.putObj D (.deferred none)) g t cs :=
  blk_own h (grownBy_putObj' W D _) (fun r e => by cases e; exact ⟨_, hK, rfl⟩)
theorem put_below {w W : World} {D : Nat} (h : Below w.heap.size w W) (hD : w.heap.size ≤ D) (hK : W.heap[D]? = some (.deferred (some []))) : Below w.heap.size w (W.putObj D (.deferred none)) :=
  h.trans (belowK_b (w := w) (Nat.le_refl _) W D _ _ hD hK rfl rfl)
theorem leave1 {n D : Nat} {w W : World} {tm : Array Value} {g4 g5 g6 : Nat} {a b c : Int} {m : EndM} (hm : m = ⟨a, b, c⟩) (h4 : tm[4]?.getD undef = .pointer (some ⟨g4, 0, none⟩)) (h5 : tm[5]?.getD undef = .pointer (some ⟨g5, 0, none⟩)) (h6 : tm[6]?.getD undef = .pointer (some ⟨g6, 0, none⟩))
    (R4 : Blk W g4 3 #[.int .i64 a]) (R5 : Blk W g5 2 #[.int .i64 b]) (R6 : Blk W g6 25 #[.int .i64 c]) (hK : W.heap[D]? = some (.deferred (some []))) (hD : w.heap.size ≤ D) (hB : Below w.heap.size w W) :
    LeavesInM Fence.wide n Tryd.prog Tryd.f12 tm (EndOk m w) [{ target := .collected D, args := #[] }] .returning W :=
  ⟨by simp, .inl ⟨_, _, rfl, run_takeDeferred hK, leave0 hm h4 h5 h6 (put_blk R4 hK) (put_blk R5 hK) (put_blk R6 hK) (put_below hB hD hK)⟩⟩
theorem leave2 {n D E : Nat} {w W : World} {tm : Array Value} {g4 g5 g6 : Nat} {a b c : Int} {m : EndM} (hm : m = ⟨a, b, c⟩) (h4 : tm[4]?.getD undef = .pointer (some ⟨g4, 0, none⟩)) (h5 : tm[5]?.getD undef = .pointer (some ⟨g5, 0, none⟩)) (h6 : tm[6]?.getD undef = .pointer (some ⟨g6, 0, none⟩))
    (R4 : Blk W g4 3 #[.int .i64 a]) (R5 : Blk W g5 2 #[.int .i64 b]) (R6 : Blk W g6 25 #[.int .i64 c]) (hK : W.heap[D]? = some (.deferred (some []))) (hD : w.heap.size ≤ D) (hK2 : W.heap[E]? = some (.deferred (some []))) (hE : w.heap.size ≤ E) (hDE : D ≠ E) (hB : Below w.heap.size w W) :
    LeavesInM Fence.wide n Tryd.prog Tryd.f12 tm (EndOk m w) [{ target := .collected E, args := #[] }, { target := .collected D, args := #[] }] .returning W :=
  ⟨by simp, .inl ⟨_, _, rfl, run_takeDeferred hK2, leave1 hm h4 h5 h6 (put_blk R4 hK2) (put_blk R5 hK2) (put_blk R6 hK2) (((grownBy_putObj' W E (.deferred none)).block D (Array.getElem?_eq_some_iff.1 hK).1 (by simp; exact hDE)).trans hK) hD (put_below hB hE hK2)⟩⟩
/-- The three results, stored. -/
theorem three_set {w W : World} {g4 g5 g6 : Nat} {x4 x5 x6 : Value} (R4 : Blk W g4 3 #[x4]) (R5 : Blk W g5 2 #[x5]) (R6 : Blk W g6 25 #[x6]) (u4 u5 u6 : Value) (n45 : g4 ≠ g5) (n46 : g4 ≠ g6) (n56 : g5 ≠ g6) (hB : Below w.heap.size w W) (l4 : w.heap.size ≤ g4) (l5 : w.heap.size ≤ g5) (l6 : w.heap.size ≤ g6) :
    let V := ((W.setCell ⟨g4, 0, none⟩ u4).setCell ⟨g5, 0, none⟩ u5).setCell ⟨g6, 0, none⟩ u6
    Blk V g4 3 #[u4] ∧ Blk V g5 2 #[u5] ∧ Blk V g6 25 #[u6] ∧ Below w.heap.size w V ∧ ∀ D : Nat, W.heap[D]? = some (.deferred (some [])) → V.heap[D]? = some (.deferred (some [])) := by
  intro V
  refine ⟨((R4.set_ 0 u4).far n45 u5).far n46 u6, (((R5.far n45.symm u4)).set_ 0 u5).far n56 u6, ((R6.far n46.symm u4).far n56.symm u5).set_ 0 u6, below_set (below_set (below_set hB l4 _) l5 _) l6 _, fun D hD => ?_⟩
  have h1 := (KeepsOthers.setCell W ⟨g4, 0, none⟩ u4).same D _ hD rfl
  have h2 := (KeepsOthers.setCell _ ⟨g5, 0, none⟩ u5).same D _ h1 rfl
  exact (KeepsOthers.setCell _ ⟨g6, 0, none⟩ u6).same D _ h2 rfl

end Go.Proofs.YtiigkacmahecaaaDoor
