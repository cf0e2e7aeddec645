/-
  How a body ends: the program.
-/
import Derived.RangeFuncNested
import Derived.RangeFuncBound
import Derived.RangeFuncCalls
import Derived.RangeFuncLeaves
import Derived.Shelf.Abstract
import Derived.Shelf.RegionOpen
import Derived.WalkKit
import Derived.OwnWalkIn
import Derived.TacticsInMore
import Derived.LoopNIn
import Derived.LoopIn
import Derived.Test.YtiigkacmahecaaaDoorGrFb
import Derived.Test.YtiigkacmahecaaaDoorFrE
import Derived.Test.YtiigkacmahecaaaDoorGrFr
import Derived.Test.YtiigkacmahecaaaDoorGrF
namespace Go.Proofs.YtiigkacmahecaaaDoor
open Go.RowKit Go.Shelf
set_option linter.unusedVariables false
set_option linter.unusedSimpArgs false

attribute [local go_sem] Oper.semAt_some

def wTE : Bs := [84, 114, 97, 110, 115, 102, 101, 114, 45, 69, 110, 99, 111, 100, 105, 110, 103]
def wCL : Bs := [67, 111, 110, 116, 101, 110, 116, 45, 76, 101, 110, 103, 116, 104]
def headB (a : ByteArray) : Bool := a.toList == [72, 69, 65, 68]
def oursB (l : List StrX) : Nat := (l.filter fun x => alikeB x.1.data.toList wChunked).length
theorem ours_le (l : List StrX) : oursB l ≤ l.length := List.length_filter_le _ _
theorem ours_app {l : List StrX} {x : StrX} : oursB (l ++ [x]) = oursB l + (if alikeB x.1.data.toList wChunked = true then 1 else 0) := by
  unfold oursB
  rw [List.filter_append, List.length_append]
  congr 1
  by_cases h : alikeB x.1.data.toList wChunked = true <;> simp [h]
theorem itemsV_len : ∀ (vs : List Bs), (∀ x ∈ vs, x.length ≤ 1000000) → (itemsV vs).length ≤ vs.length * 1000001
  | [], _ => by simp [itemsV]
  | v :: r, h => by
    have h1 := itemsV_len r (fun x hx => h x (by simp [hx]))
    have h2 := itemsR_len v false false []
    have h3 : ((itemsR false false [] v).filter fun x => !x.isEmpty).length ≤ (itemsR false false [] v).length := List.length_filter_le _ _
    have h4 := h v (by simp)
    rw [show v :: r = [v] ++ r from rfl, itemsV_app, itemsV_one, List.length_append, List.length_append, List.length_singleton, Nat.add_mul]
    omega
theorem own_defer {B D : Nat} {β : Type} (h : D < B) : OwnFrom B (fun (_ : β) (W : World) => W.heap[D]? = some (.deferred (some []))) := fun _ X Y row hs hg hr => (hg.block D (Array.getElem?_eq_some_iff.1 hs).1 (fun e => by have := (hr D e.symm).1; omega)).trans hs
theorem ours_all {ys : List StrX} {te : List Bs} (h : bts ys = itemsV te) (h1 : ys.length = 1) : (itemsV te).all (fun x => alikeB x wChunked) = decide (oursB ys = 1) := by
  rw [← h]
  match ys, h1 with
  | [y], _ =>
    unfold oursB bts
    cases q : alikeB y.1.data.toList wChunked <;> simp [q]
theorem endM_none (te cl : List Bs) (b : Bool) (h : b = true) : endM b te cl = ⟨4, 0, 0⟩ := by unfold endM; rw [if_pos h]
theorem endM_cod {te cl : List Bs} (h : (itemsV te).length ≠ 0) : endM false te cl = if (itemsV te).length = 1 ∧ (itemsV te).all (fun x => alikeB x wChunked) = true ∧ cl.isEmpty = true then ⟨2, 0, 0⟩ else ⟨0, 0, 2⟩ := by
  have he : (itemsV te).isEmpty = false := by
    cases hl : itemsV te
    · rw [hl] at h; exact absurd rfl h
    · rfl
  unfold endM
  rw [if_neg (by simp), if_pos he]
theorem endM_no {te cl : List Bs} (h : (itemsV te).length = 0) : endM false te cl = if cl.isEmpty = true then ⟨3, 0, 0⟩ else if 0 ≤ oneSize (itemsV cl) ∧ oneSize (itemsV cl) ≤ 1099511627776 then ⟨1, oneSize (itemsV cl), 0⟩ else ⟨0, 0, 2⟩ := by
  have he : (itemsV te).isEmpty = true := by
    cases hl : itemsV te
    · rfl
    · rw [hl] at h; simp at h
  unfold endM
  rw [if_neg (by simp), if_neg (by rw [he]; simp)]
/-- The size that all items so far say; -1: there was none. -/
def szF : List StrX → Int
  | [] => -1
  | x :: _ => numD x.1.data.toList
def AllOk (l : List StrX) : Prop := ∀ x ∈ l, numD x.1.data.toList = szF l ∧ 0 ≤ numD x.1.data.toList
theorem allOk_nil : AllOk [] := fun x h => by cases h
theorem szF_app {l : List StrX} {x : StrX} (h : l ≠ []) : szF (l ++ [x]) = szF l := by
  cases l
  · exact absurd rfl h
  · rfl
theorem szF_bd (l : List StrX) : -1 ≤ szF l ∧ szF l < 1000000000000000000 := by
  cases l with
  | nil => decide
  | cons x r => exact numD_bd _
theorem szF_ne {l : List StrX} (h : AllOk l) (hn : l ≠ []) : 0 ≤ szF l := by
  cases l with
  | nil => exact absurd rfl hn
  | cons x r => exact (h x (by simp)).2
theorem allOk_app {l : List StrX} {x : StrX} (h : AllOk l) (hx : 0 ≤ numD x.1.data.toList) (hs : l = [] ∨ numD x.1.data.toList = szF l) : AllOk (l ++ [x]) ∧ szF (l ++ [x]) = numD x.1.data.toList := by
  by_cases hl : l = []
  · subst hl
    refine ⟨fun y hy => ?_, rfl⟩
    obtain rfl : y = x := by simpa using hy
    exact ⟨rfl, hx⟩
  · have h2 := hs.resolve_left hl
    rw [show szF (l ++ [x]) = szF l from szF_app hl]
    refine ⟨fun y hy => ?_, h2.symm⟩
    rw [szF_app hl]
    rcases List.mem_append.1 hy with hy | hy
    · exact h y hy
    · obtain rfl : y = x := by simpa using hy
      exact ⟨h2, hx⟩
theorem allOk_bad {l : List StrX} {x : StrX} (hx : numD x.1.data.toList < 0 ∨ (l ≠ [] ∧ numD x.1.data.toList ≠ szF l)) : ¬ AllOk (l ++ [x]) := fun h => by
  have := h x (by simp)
  rcases hx with hx | ⟨hx, hy⟩
  · omega
  · rw [szF_app hx] at this
    exact hy this.1
theorem one_good {l : List StrX} {is : List Bs} (h : AllOk l) (e : bts l = is) : oneSize is = szF l := by
  subst e
  cases l with
  | nil => rfl
  | cons x r =>
    show (if (bts r).all (fun y => numD y == numD x.1.data.toList) = true then numD x.1.data.toList else -1) = _
    rw [if_pos]
    · rfl
    · rw [List.all_eq_true]
      intro y hy
      obtain ⟨z, hz, rfl⟩ := List.mem_map.1 hy
      rw [beq_iff_eq]
      exact (h z (by simp [hz])).1
theorem one_bad {l : List StrX} {is : List Bs} (h : ¬ AllOk l) (e : bts l <+: is) : oneSize is < 0 := by
  cases l with
  | nil => exact absurd allOk_nil h
  | cons x r =>
    obtain ⟨t, ht⟩ := e
    subst ht
    show (if (bts r ++ t).all (fun y => numD y == numD x.1.data.toList) = true then numD x.1.data.toList else -1) < 0
    split
    · rename_i ha
      rw [List.all_append, Bool.and_eq_true, List.all_eq_true] at ha
      apply Classical.byContradiction
      intro hn
      apply h
      intro y hy
      have hyx : numD y.1.data.toList = numD x.1.data.toList := by
        rcases List.mem_cons.1 hy with rfl | hy
        · rfl
        · exact beq_iff_eq.1 (ha.1 _ (List.mem_map.2 ⟨y, hy, rfl⟩))
      exact ⟨hyx, by omega⟩
    · omega

set_option maxRecDepth 100000 in
set_option maxHeartbeats 4000000 in
theorem fOf_any (mth obj : ByteArray) (st : Int) (v : Value) (l : List FieldL) (asked : ByteArray) (w : World) (hr : RdL LF w w.heap.size v l) (hz1 : ∀ f ∈ l, f.1.length ≤ 1000000) (hz2 : ∀ f ∈ l, f.2.length ≤ 1000000) (hll : l.length ≤ 1000000) :
    Calls Tryd.prog 12 #[.agg #[.string mth, .string obj, .int .i64 st, v], .string asked] w (EndOk (endM (headB asked || bareB st) (ofV l wTE) (ofV l wCL)) w) := by
  obtain ⟨A, c, rfl, _, _⟩ := hr.form
  have HR := hide hr
  clear hr
  refine (callsIn_wide (n := 5)).1 ?_
  refine callsIn_of_wp_marks Tryd.func12 rfl trivial ?_ rfl
  simp only [Tryd.ntmps12, List.size_toArray, List.length_cons, List.length_nil, Nat.reduceAdd, Nat.reduceSub, Array.replicate_succ, Array.replicate_zero, List.push_toArray, List.append_toArray, List.nil_append, List.cons_append]
  cases q1 : headB asked
  · have d1 : (asked.toList == [72, 69, 65, 68]) = false := q1
    clear q1
    gi_wp2
    refine ⟨trivial, ?_⟩
    refine (callsIn_wide.2 (bare_any st _)).mono ?_
    rintro e w1 ⟨rfl, hb1⟩
    have H : Blk w1 w.heap.size 29 #[.string mth, .string obj, .int .i64 st, .slice A l.length c] := ((((Blk.new _ _ _).alloc _).alloc _).alloc _).below hb1 (by simp; omega)
    have R4 : Blk w1 (w.heap.size + 1) 3 #[.int .i64 0] := (((Blk.new' (by simp)).alloc _).alloc _).below hb1 (by simp)
    have R5 : Blk w1 (w.heap.size + 1 + 1) 2 #[.int .i64 0] := ((Blk.new' (by simp)).alloc _).below hb1 (by simp)
    have R6 : Blk w1 (w.heap.size + 1 + 1 + 1) 25 #[.int .i64 0] := (Blk.new' (by simp)).below hb1 (by simp)
    have hB1 : Below w.heap.size w w1 := (((((Below.refl _ _).alloc (Nat.le_refl _) _).alloc (by simp) _).alloc (by simp; omega) _).alloc (by simp; omega) _).trans (hb1.mono (by simp; omega))
    clear hb1 d1
    obtain ⟨g4, hg4⟩ : ∃ n, n = w.heap.size + 1 := ⟨_, rfl⟩
    rw [← hg4] at R4 R5 R6 ⊢
    obtain ⟨g5, hg5⟩ : ∃ n, n = g4 + 1 := ⟨_, rfl⟩
    rw [← hg5] at R5 R6 ⊢
    obtain ⟨g6, hg6⟩ : ∃ n, n = g5 + 1 := ⟨_, rfl⟩
    rw [← hg6] at R6 ⊢
    have n45 : g4 ≠ g5 := by omega
    have n46 : g4 ≠ g6 := by omega
    have n56 : g5 ≠ g6 := by omega
    have n54 : g5 ≠ g4 := by omega
    have n64 : g6 ≠ g4 := by omega
    have n65 : g6 ≠ g5 := by omega
    have l4 : w.heap.size < g4 := by omega
    have l5 : w.heap.size < g5 := by omega
    have l6 : w.heap.size < g6 := by omega
    clear hg4 hg5 hg6
    have c4 : w1.cell? ⟨g4, 0, none⟩ = some (.int .i64 0) := R4.cell 0
    have c5 : w1.cell? ⟨g5, 0, none⟩ = some (.int .i64 0) := R5.cell 0
    have c6 : w1.cell? ⟨g6, 0, none⟩ = some (.int .i64 0) := R6.cell 0
    have cH : w1.cell? ⟨w.heap.size, 3, none⟩ = some (.slice A l.length c) := H.cell 3
    have ltH := H.lt
    have f4 := R4.frozen 0
    have f5 := R5.frozen 0
    have f6 := R6.frozen 0
    cases q2 : bareB st
    · have HQ := hide q2
      clear q2
      gi_wp2
      refine ⟨trivial, ?_⟩
      obtain ⟨wa, hwa⟩ : ∃ W, W = (w1.alloc (.cells #[.int .i64 0] 3)).alloc (.cells #[.int .i64 0] 3) := ⟨_, rfl⟩
      rw [← hwa]
      obtain ⟨g7, hg7⟩ : ∃ n, n = w1.heap.size := ⟨_, rfl⟩
      rw [← hg7]
      have lt4 := R4.lt
      have lt5 := R5.lt
      have lt6 := R6.lt
      replace R4 : Blk wa g4 3 #[.int .i64 0] := by rw [hwa]; exact (R4.alloc _).alloc _
      replace R5 : Blk wa g5 2 #[.int .i64 0] := by rw [hwa]; exact (R5.alloc _).alloc _
      replace R6 : Blk wa g6 25 #[.int .i64 0] := by rw [hwa]; exact (R6.alloc _).alloc _
      replace H : Blk wa w.heap.size 29 #[.string mth, .string obj, .int .i64 st, .slice A l.length c] := by rw [hwa]; exact (H.alloc _).alloc _
      have R7 : Blk wa g7 3 #[.int .i64 0] := by rw [hwa, hg7]; exact (Blk.new _ _ _).alloc _
      have R8 : Blk wa (g7 + 1) 3 #[.int .i64 0] := by rw [hwa, hg7]; exact Blk.new' (by simp)
      have hBa : Below w.heap.size w wa := by rw [hwa]; exact hB1.trans ((((Below.refl _ _).alloc (Nat.le_refl _) _).alloc (by simp) _).mono hB1.size)
      obtain ⟨g8, hg8⟩ : ∃ n, n = g7 + 1 := ⟨_, rfl⟩
      rw [← hg8] at R8 ⊢
      have n47 : g4 ≠ g7 := by omega
      have n48 : g4 ≠ g8 := by omega
      have n57 : g5 ≠ g7 := by omega
      have n58 : g5 ≠ g8 := by omega
      have n67 : g6 ≠ g7 := by omega
      have n68 : g6 ≠ g8 := by omega
      have n78 : g7 ≠ g8 := by omega
      have n0 : w.heap.size ≠ g7 := by omega
      have n08 : w.heap.size ≠ g8 := by omega
      have l7 : w.heap.size < g7 := by omega
      have l8 : w.heap.size < g8 := by omega
      clear hwa hg7 hg8 c4 c5 c6 cH f4 f5 f6 lt4 lt5 lt6 ltH hB1
      refine (callsIn_wide.2 (fof_any _ l _ _ ((HR.out.below hBa).mono hBa.size) hz1 (by decide) hll)).mono ?_
      rintro e w2 ⟨v2, rfl, O2, hb2⟩
      have hB2 := hBa.trans (hb2.mono hBa.size)
      replace R4 := R4.below hb2 R4.lt
      replace R5 := R5.below hb2 R5.lt
      replace R6 := R6.below hb2 R6.lt
      replace R7 := R7.below hb2 R7.lt
      replace R8 := R8.below hb2 R8.lt
      replace H := H.below hb2 H.lt
      clear hb2
      obtain ⟨te, hte⟩ : ∃ x, x = ofV l wTE := ⟨_, rfl⟩
      have O2' : OwnL LW wa.heap.size w2 v2 te := by rw [hte]; exact O2
      have htl : te.length ≤ 1000000 := by rw [hte]; have := ofV_len l wTE; omega
      have htz : ∀ x ∈ te, x.length ≤ 1000000 := fun x hx => by rw [hte] at hx; obtain ⟨f, hf, rfl⟩ := ofV_mem hx; exact hz2 f hf
      have HTE := hide hte
      gi_wp2
      refine ⟨trivial, ?_⟩
      refine (callsIn_wide.2 (items_any v2 te w2 O2'.rd htl)).mono ?_
      rintro e w3 ⟨gi, Ai, ci, rfl, hgi, Gi, Ri, hAi, hb3⟩
      have hB3 := hB2.trans (hb3.mono hB2.size)
      have m7 : g7 < w2.heap.size := R7.lt
      have m8 : g8 < w2.heap.size := R8.lt
      have m5 : g5 < w2.heap.size := R5.lt
      replace R4 := R4.below hb3 R4.lt
      replace R5 := R5.below hb3 R5.lt
      replace R6 := R6.below hb3 R6.lt
      replace R7 := R7.below hb3 R7.lt
      replace R8 := R8.below hb3 R8.lt
      replace H := H.below hb3 H.lt
      clear hb3 O2 O2' hte
      have hw3 : w.heap.size ≤ w3.heap.size := hB3.size
      have hlen := itemsV_len te htz
      have hN : (itemsV te).length ≤ 1000001000000 := by have : te.length * 1000001 ≤ 1000000 * 1000001 := Nat.mul_le_mul_right _ htl; omega
      clear hlen
      gi_wp2
      refine wpIn_rangeFunc_ownG rfl (show 1 ≤ 5 by decide) (gf := 45) (lb := #[.pointer (some ⟨gi, 0, none⟩)]) rfl trivial (enters_of Tryd.func45 (by kernel_rfl) rfl) (items_stops (5 - 1) (by decide) gi w2.heap.size ci Ai te w3 Gi Ri hAi (fun x hx => by have := htz x hx; omega) htl) (fun h k => h.trans k) (fun W l o o' hl _ _ _ => Mid.put W l o o' hl) (Below.refl _ _) (fun _ => rfl)
        (fun pre W => (Blk W g7 3 #[.int .i64 (pre.length : Int)] ∧ Blk W g8 3 #[.int .i64 (oursB pre : Int)] ∧ Blk W g4 3 #[.int .i64 0] ∧ Blk W g5 2 #[.int .i64 0] ∧ Blk W g6 25 #[.int .i64 0] ∧ Blk W w.heap.size 29 #[.string mth, .string obj, .int .i64 st, .slice A l.length c] ∧ w3.heap.size ≤ W.heap.size) ∧ Below w.heap.size w W) (fun _ _ _ => False)
        (OwnFrom.and (Own.from (fun s A B row hs hg hr => ⟨blk_own hs.1 hg hr, blk_own hs.2.1 hg hr, blk_own hs.2.2.1 hg hr, blk_own hs.2.2.2.1 hg hr, blk_own hs.2.2.2.2.1 hg hr, blk_own hs.2.2.2.2.2.1 hg hr, Nat.le_trans hs.2.2.2.2.2.2 hg.size⟩) _) (ownFrom_below (Nat.le_refl _) hB3.size)) (fun _ _ _ _ _ hs _ _ => hs) ⟨⟨R7, R8, R4, R5, R6, H, Nat.le_refl _⟩, hB3⟩ ?a1 ?assign ?body ?done ?stop
      case assign =>
        intro l x W K hK
        gi_wp2
        exact hK
      case body =>
        clear R4 R5 R6 R7 R8 H Gi Ri hAi hB3
        rintro l0 pre x W ⟨⟨Q7, Q8, Q4, Q5, Q6, QH, hs0⟩, hB⟩ hlt
        have c7 : W.cell? ⟨g7, 0, none⟩ = some (.int .i64 (pre.length : Int)) := Q7.cell 0
        have f7 : W.frozen? ⟨g7, 0, none⟩ = false := Q7.frozen 0
        have hpl : (pre.length : Int) + 1 ≤ 9223372036854775807 := by omega
        gi_wp2
        refine ⟨trivial, ?_⟩
        obtain ⟨W1, hW1⟩ : ∃ V, V = W.setCell ⟨g7, 0, none⟩ (.int .i64 ((pre.length : Int) + 1)) := ⟨_, rfl⟩
        rw [← hW1]
        have e1 : (((pre ++ [x]).length : Nat) : Int) = (pre.length : Int) + 1 := by rw [List.length_append]; rfl
        have P7 : Blk W1 g7 3 #[.int .i64 (((pre ++ [x]).length : Nat) : Int)] := by rw [hW1, e1]; exact Q7.set_ 0 _
        have P8 : Blk W1 g8 3 #[.int .i64 (oursB pre : Int)] := by rw [hW1]; exact Q8.far n78.symm _
        have P4 : Blk W1 g4 3 #[.int .i64 0] := by rw [hW1]; exact Q4.far n47 _
        have P5 : Blk W1 g5 2 #[.int .i64 0] := by rw [hW1]; exact Q5.far n57 _
        have P6 : Blk W1 g6 25 #[.int .i64 0] := by rw [hW1]; exact Q6.far n67 _
        have PH : Blk W1 w.heap.size 29 #[.string mth, .string obj, .int .i64 st, .slice A l.length c] := by rw [hW1]; exact QH.far n0 _
        have pB : Below w.heap.size w W1 := by rw [hW1]; exact below_set hB (by omega) _
        have pK : KeepsFrom w3.heap.size W W1 := by rw [hW1]; exact (KeepsOthers.setCell _ _ _).from _
        have pM : Mid w2.heap.size w3.heap.size W W1 := by rw [hW1]; exact Mid.set_ W _ m7
        have hs3 : w3.heap.size ≤ W1.heap.size := Nat.le_trans hs0 pM.1
        clear hW1 c7 f7 Q7 Q8 Q4 Q5 Q6 QH hB
        refine (CallsIn.inRound l0 (callsIn_wide.2 (chunked_any x.1 W1))).mono ?_
        rintro e W2 ⟨rfl, hb2⟩
        replace P7 := P7.below hb2 P7.lt
        replace P8 := P8.below hb2 P8.lt
        replace P4 := P4.below hb2 P4.lt
        replace P5 := P5.below hb2 P5.lt
        replace P6 := P6.below hb2 P6.lt
        replace PH := PH.below hb2 PH.lt
        replace pB := pB.trans (hb2.mono pB.size)
        replace pK := pK.trans (KeepsFrom.of_grownBy (grown_of_below hb2) (fun j e => by cases e))
        replace pM := pM.trans (Mid.of_below hb2 hs3)
        have hs4 : w3.heap.size ≤ W2.heap.size := Nat.le_trans hs3 hb2.size
        clear hb2
        cases q : alikeB x.1.data.toList wChunked
        · have e2 : oursB (pre ++ [x]) = oursB pre := by rw [ours_app, q]; rfl
          rw [← e2] at P8
          clear q e2
          gi_wp2
          exact ⟨pK, pM, ⟨P7, P8, P4, P5, P6, PH, hs4⟩, pB⟩
        · have e2 : ((oursB (pre ++ [x]) : Nat) : Int) = (oursB pre : Int) + 1 := by rw [ours_app, q]; rfl
          have c8 : W2.cell? ⟨g8, 0, none⟩ = some (.int .i64 (oursB pre : Int)) := P8.cell 0
          have f8 : W2.frozen? ⟨g8, 0, none⟩ = false := P8.frozen 0
          have ho := ours_le pre
          have hpo : (oursB pre : Int) + 1 ≤ 9223372036854775807 := by omega
          clear q
          gi_wp2
          exact ⟨pK.trans ((KeepsOthers.setCell _ _ _).from _), pM.trans (Mid.set_ _ _ m8), ⟨P7.far n78 _, by rw [e2]; exact P8.set_ 0 _, P4.far n48 _, P5.far n58 _, P6.far n68 _, PH.far n08 _, Nat.le_trans hs4 (KeepsWalks.setCell W2 _ _).size⟩, below_set pB (by omega) _⟩
      case stop =>
        rintro D c pre W _ _ h _
        exact h.elim
      case done =>
        clear R4 R5 R6 R7 R8 H Gi Ri hAi hB3
        rintro D ys W hD hS ⟨⟨R7, R8, R4, R5, R6, H, hs0⟩, hB⟩ hK
        have hD0 : w.heap.size ≤ D := Nat.le_trans hw3 hD
        have cH : W.cell? ⟨w.heap.size, 3, none⟩ = some (.slice A l.length c) := H.cell 3
        gi_wp2
        refine ⟨trivial, ?_⟩
        refine (callsIn_wide.2 (fof_any _ l _ W ((HR.out.below hB).mono hB.size) hz1 (by decide) hll)).mono ?_
        rintro e w5 ⟨v5, rfl, O5, hb5⟩
        have hB5 := hB.trans (hb5.mono hB.size)
        have hK5 : w5.heap[D]? = some (.deferred (some [])) := (hb5.block D (Array.getElem?_eq_some_iff.1 hK).1).trans hK
        replace R4 := R4.below hb5 R4.lt
        replace R5 := R5.below hb5 R5.lt
        replace R6 := R6.below hb5 R6.lt
        replace R7 := R7.below hb5 R7.lt
        replace R8 := R8.below hb5 R8.lt
        clear hb5 hK hB cH hs0 H
        obtain ⟨cl, hcl⟩ : ∃ x, x = ofV l wCL := ⟨_, rfl⟩
        have O5' : OwnL LW W.heap.size w5 v5 cl := by rw [hcl]; exact O5
        have hcll : cl.length ≤ 1000000 := by rw [hcl]; have := ofV_len l wCL; omega
        have hclz : ∀ x ∈ cl, x.length ≤ 1000000 := fun x hx => by rw [hcl] at hx; obtain ⟨f, hf, rfl⟩ := ofV_mem hx; exact hz2 f hf
        have HCL := hide hcl
        clear O5 hcl
        obtain ⟨A5, c5, rfl, _, _⟩ := O5'.rd.form
        obtain ⟨nn, hnn⟩ : ∃ n, n = ys.length := ⟨_, rfl⟩
        obtain ⟨oo, hoo⟩ : ∃ n, n = oursB ys := ⟨_, rfl⟩
        rw [← hnn] at R7
        rw [← hoo] at R8
        have hni : nn = (itemsV te).length := by rw [hnn, ← hS, bts_len]
        have HALL := hide (show nn = 1 → (itemsV te).all (fun x => alikeB x wChunked) = decide (oo = 1) from fun h => by rw [hoo]; exact ours_all hS (by omega))
        clear hS hnn hoo
        have HNI := hide hni
        clear hni
        have c7 : w5.cell? ⟨g7, 0, none⟩ = some (.int .i64 (nn : Int)) := R7.cell 0
        have c8 : w5.cell? ⟨g8, 0, none⟩ = some (.int .i64 (oo : Int)) := R8.cell 0
        have c4 : w5.cell? ⟨g4, 0, none⟩ = some (.int .i64 0) := R4.cell 0
        have f4 : w5.frozen? ⟨g4, 0, none⟩ = false := R4.frozen 0
        have c5' : w5.cell? ⟨g5, 0, none⟩ = some (.int .i64 0) := R5.cell 0
        have f5 : w5.frozen? ⟨g5, 0, none⟩ = false := R5.frozen 0
        have c6 : w5.cell? ⟨g6, 0, none⟩ = some (.int .i64 0) := R6.cell 0
        have f6 : w5.frozen? ⟨g6, 0, none⟩ = false := R6.frozen 0
        by_cases hn0 : nn = 0
        · have HNO := hide (endM_no (te := te) (cl := cl) (by rw [← HNI.out]; exact hn0))
          subst hn0
          by_cases hc0 : cl.length = 0
          · have e0 : ((cl.length : Int) == 0) = true := beqT (by omega)
            have HM := hide (show endM false te cl = ⟨3, 0, 0⟩ by rw [HNO.out, if_pos (by rw [List.isEmpty_iff]; exact List.eq_nil_of_length_eq_zero hc0)])
            clear HNO hc0 HALL
            gi_wp2
            obtain ⟨S4, S5, S6, SB, SD⟩ := three_set R4 R5 R6 (.int .i64 3) (.int .i64 0) (.int .i64 0) n45 n46 n56 hB5 (by omega) (by omega) (by omega)
            exact leave1 (n := 5) (by rw [← HTE.out, ← HCL.out, HQ.out]; exact HM.out) rfl rfl rfl S4 S5 S6 (SD D hK5) hD0 SB
          · have e0 : ((cl.length : Int) == 0) = false := beqF (by omega)
            have HM2 := hide (show endM false te cl = (if 0 ≤ oneSize (itemsV cl) ∧ oneSize (itemsV cl) ≤ 1099511627776 then ⟨1, oneSize (itemsV cl), 0⟩ else ⟨0, 0, 2⟩) by rw [HNO.out, if_neg (by rw [List.isEmpty_iff]; intro h; exact hc0 (by rw [h]; rfl))])
            clear HNO hc0 HALL
            gi_wp2
            refine ⟨trivial, ?_⟩
            clear e0 R7 R8 c7 c8
            have O6 : OwnL LW W.heap.size (w5.setCell ⟨g5, 0, none⟩ (.int .i64 (-1))) (.slice A5 cl.length c5) cl := OwnL.far O5' (O5'.not_blk R5 (by decide)) _
            obtain ⟨V1, hV1⟩ : ∃ V, V = w5.setCell ⟨g5, 0, none⟩ (.int .i64 (-1)) := ⟨_, rfl⟩
            rw [← hV1] at O6 ⊢
            have P5 : Blk V1 g5 2 #[.int .i64 (-1)] := by rw [hV1]; exact R5.set_ 0 _
            have P4 : Blk V1 g4 3 #[.int .i64 0] := by rw [hV1]; exact R4.far n45 _
            have P6 : Blk V1 g6 25 #[.int .i64 0] := by rw [hV1]; exact R6.far n65 _
            have pB : Below w.heap.size w V1 := by rw [hV1]; exact below_set hB5 (by omega) _
            have pD : V1.heap[D]? = some (.deferred (some [])) := by rw [hV1]; exact (KeepsOthers.setCell _ _ _).same D _ hK5 rfl
            clear hV1 R4 R5 R6 c4 c5' c6 f4 f5 f6 hB5 hK5 O5'
            refine (callsIn_wide.2 (items_any _ cl V1 O6.rd hcll)).mono ?_
            rintro e w6 ⟨gj, Aj, cj, rfl, hgj, Gj, Rj, hAj, hb6⟩
            have k5 : g5 < V1.heap.size := P5.lt
            have pB6 := pB.trans (hb6.mono pB.size)
            have pD6 : w6.heap[D]? = some (.deferred (some [])) := (hb6.block D (Array.getElem?_eq_some_iff.1 pD).1).trans pD
            have hD6 : D < w6.heap.size := (Array.getElem?_eq_some_iff.1 pD6).1
            replace P4 := P4.below hb6 P4.lt
            replace P5 := P5.below hb6 P5.lt
            replace P6 := P6.below hb6 P6.lt
            have hw6 : w.heap.size ≤ w6.heap.size := pB6.size
            clear hb6 O6 pB pD
            gi_wp2
            refine wpIn_rangeFunc_ownG rfl (show 1 ≤ 5 by decide) (gf := 45) (lb := #[.pointer (some ⟨gj, 0, none⟩)]) rfl trivial (enters_of Tryd.func45 (by kernel_rfl) rfl) (items_stops (5 - 1) (by decide) gj V1.heap.size cj Aj cl w6 Gj Rj hAj (fun x hx => by have := hclz x hx; omega) hcll) (fun h k => h.trans k) (fun W l o o' hl _ _ _ => Mid.put W l o o' hl) (Below.refl _ _) (fun _ => rfl)
              (fun pre W => (Blk W g5 2 #[.int .i64 (szF pre)] ∧ Blk W g4 3 #[.int .i64 0] ∧ Blk W g6 25 #[.int .i64 0] ∧ AllOk pre ∧ w6.heap.size ≤ W.heap.size) ∧ (W.heap[D]? = some (.deferred (some [])) ∧ Below w.heap.size w W))
              (fun j pre W => (j = .ret ∧ Blk W g5 2 #[.int .i64 0] ∧ Blk W g4 3 #[.int .i64 0] ∧ Blk W g6 25 #[.int .i64 2] ∧ ¬ AllOk pre) ∧ (W.heap[D]? = some (.deferred (some [])) ∧ Below w.heap.size w W))
              (OwnFrom.and (Own.from (fun s A B row hs hg hr => ⟨blk_own hs.1 hg hr, blk_own hs.2.1 hg hr, blk_own hs.2.2.1 hg hr, hs.2.2.2.1, Nat.le_trans hs.2.2.2.2 hg.size⟩) _) (OwnFrom.and (own_defer hD6) (ownFrom_below (Nat.le_refl _) hw6)))
              (fun j => OwnFrom.and (Own.from (fun s A B row hs hg hr => ⟨hs.1, blk_own hs.2.1 hg hr, blk_own hs.2.2.1 hg hr, blk_own hs.2.2.2.1 hg hr, hs.2.2.2.2⟩) _) (OwnFrom.and (own_defer hD6) (ownFrom_below (Nat.le_refl _) hw6)))
              ⟨⟨P5, P4, P6, allOk_nil, Nat.le_refl _⟩, pD6, pB6⟩ ?a2 ?assign2 ?body2 ?done2 ?stop2
            case assign2 =>
              intro l x W K hK
              gi_wp2
              exact hK
            case body2 =>
              clear P4 P5 P6 Gj Rj hAj pD6 pB6
              rintro l0 pre x X ⟨⟨Q5, Q4, Q6, hok, hs0⟩, hKD, hB⟩ hlt
              have hnb := numD_bd x.1.data.toList
              have hsb := szF_bd pre
              have c5 : X.cell? ⟨g5, 0, none⟩ = some (.int .i64 (szF pre)) := Q5.cell 0
              have f5 : X.frozen? ⟨g5, 0, none⟩ = false := Q5.frozen 0
              have c4 : X.cell? ⟨g4, 0, none⟩ = some (.int .i64 0) := Q4.cell 0
              have f4 : X.frozen? ⟨g4, 0, none⟩ = false := Q4.frozen 0
              have c6 : X.cell? ⟨g6, 0, none⟩ = some (.int .i64 0) := Q6.cell 0
              have f6 : X.frozen? ⟨g6, 0, none⟩ = false := Q6.frozen 0
              have hxz : x.1.size ≤ 9223372036854775807 := Nat.le_trans x.2 (by decide)
              gi_wp2
              refine ⟨trivial, ?_⟩
              refine (CallsIn.inRound l0 (callsIn_wide.2 (fnumber_any x.1 X hxz))).mono ?_
              rintro e X2 ⟨rfl, rfl⟩
              have hsz := Q5
              obtain ⟨nx, hnx⟩ : ∃ n, n = numD x.1.data.toList := ⟨_, rfl⟩
              obtain ⟨sp, hsp⟩ : ∃ n, n = szF pre := ⟨_, rfl⟩
              rw [← hnx] at hnb ⊢
              rw [← hsp] at hsb c5 Q5
              clear hsz
              by_cases hm1 : nx = -1
              · have HBAD := hide (show ¬ AllOk (pre ++ [x]) from allOk_bad (.inl (by rw [← hnx]; omega)))
                have HN1 := hide hnx
                rw [if_pos hm1, show decide (nx ≠ -1) = false from decide_eq_false (fun h => h hm1)]
                clear hm1 hnx
                gi_wp2
                obtain ⟨S4, S5, S6, SB, SD⟩ := three_set Q4 Q5 Q6 (.int .i64 0) (.int .i64 0) (.int .i64 2) n45 n46 n56 hB (by omega) (by omega) (by omega)
                exact ⟨((KeepsOthers.setCell _ _ _).trans ((KeepsOthers.setCell _ _ _).trans (KeepsOthers.setCell _ _ _))).from _, ⟨rfl, S5, S4, S6, HBAD.out⟩, SD D hKD, SB⟩
              · have hn0 : 0 ≤ nx := by omega
                rw [if_neg hm1, show decide (nx ≠ -1) = true from decide_eq_true hm1]
                clear hm1
                by_cases hpe : pre = []
                · have hs1 : sp = -1 := by rw [hsp, hpe]; rfl
                  have HA := hide (allOk_app (x := x) hok (by rw [← hnx]; exact hn0) (.inl hpe))
                  rw [← hnx] at HA
                  subst hs1
                  clear hpe hsp hnx
                  gi_wp2
                  exact ⟨(KeepsOthers.setCell _ _ _).from _, Mid.set_ _ _ k5, ⟨by rw [HA.out.2]; exact Q5.set_ 0 _, Q4.far n45 _, Q6.far n65 _, HA.out.1, Nat.le_trans hs0 (KeepsWalks.setCell X _ _).size⟩, (KeepsOthers.setCell _ _ _).same D _ hKD rfl, below_set hB (by omega) _⟩
                · have hs1 : 0 ≤ sp := by rw [hsp]; exact szF_ne hok hpe
                  by_cases heq : nx = sp
                  · have eb : (nx != sp) = false := bneF heq
                    have HA := hide (allOk_app (x := x) hok (by rw [← hnx]; exact hn0) (.inr (by rw [← hnx, ← hsp]; exact heq)))
                    rw [← hnx] at HA
                    clear hpe hsp hnx heq
                    gi_wp2
                    exact ⟨(KeepsOthers.setCell _ _ _).from _, Mid.set_ _ _ k5, ⟨by rw [HA.out.2]; exact Q5.set_ 0 _, Q4.far n45 _, Q6.far n65 _, HA.out.1, Nat.le_trans hs0 (KeepsWalks.setCell X _ _).size⟩, (KeepsOthers.setCell _ _ _).same D _ hKD rfl, below_set hB (by omega) _⟩
                  · have eb : (nx != sp) = true := bneT heq
                    have HBAD := hide (show ¬ AllOk (pre ++ [x]) from allOk_bad (.inr ⟨hpe, by rw [← hnx, ← hsp]; exact heq⟩))
                    clear hpe hsp hnx heq
                    gi_wp2
                    obtain ⟨S4, S5, S6, SB, SD⟩ := three_set Q4 Q5 Q6 (.int .i64 0) (.int .i64 0) (.int .i64 2) n45 n46 n56 hB (by omega) (by omega) (by omega)
                    exact ⟨((KeepsOthers.setCell _ _ _).trans ((KeepsOthers.setCell _ _ _).trans (KeepsOthers.setCell _ _ _))).from _, ⟨rfl, S5, S4, S6, HBAD.out⟩, SD D hKD, SB⟩
            case stop2 =>
              clear P4 P5 P6 Gj Rj hAj pD6 pB6
              rintro E j pre X hE hSp ⟨⟨rfl, Q5, Q4, Q6, hbad⟩, hKD, hB⟩ hKE
              have HM := hide (show endM false te cl = ⟨0, 0, 2⟩ by rw [HM2.out, if_neg (fun h => by have := one_bad hbad hSp; omega)])
              clear hbad hSp
              gi_wp2
              exact leave2 (n := 5) (by rw [← HTE.out, ← HCL.out, HQ.out]; exact HM.out) rfl rfl rfl Q4 Q5 Q6 hKD hD0 hKE (Nat.le_trans hw6 hE) (by omega) hB
            case done2 =>
              clear P4 P5 P6 Gj Rj hAj pD6 pB6
              rintro E zs X hE hS2 ⟨⟨R5, R4, R6, hok, hs0⟩, hKD, hB⟩ hKE
              have hone := one_good hok hS2
              have hsb := szF_bd zs
              have hE0 : w.heap.size ≤ E := Nat.le_trans hw6 hE
              have nDE : D ≠ E := by omega
              obtain ⟨sp, hsp⟩ : ∃ n, n = szF zs := ⟨_, rfl⟩
              rw [← hsp] at hsb R5 hone
              rw [hone] at HM2
              have c5 : X.cell? ⟨g5, 0, none⟩ = some (.int .i64 sp) := R5.cell 0
              have f5 : X.frozen? ⟨g5, 0, none⟩ = false := R5.frozen 0
              have c4 : X.cell? ⟨g4, 0, none⟩ = some (.int .i64 0) := R4.cell 0
              have f4 : X.frozen? ⟨g4, 0, none⟩ = false := R4.frozen 0
              have c6 : X.cell? ⟨g6, 0, none⟩ = some (.int .i64 0) := R6.cell 0
              have f6 : X.frozen? ⟨g6, 0, none⟩ = false := R6.frozen 0
              clear hone hsp hok hS2
              by_cases h0 : sp < 0
              · have HM := hide (show endM false te cl = ⟨0, 0, 2⟩ by rw [HM2.out, if_neg (fun h => by omega)])
                clear HM2
                gi_wp2
                obtain ⟨S4, S5, S6, SB, SD⟩ := three_set R4 R5 R6 (.int .i64 0) (.int .i64 0) (.int .i64 2) n45 n46 n56 hB (by omega) (by omega) (by omega)
                exact leave2 (n := 5) (by rw [← HTE.out, ← HCL.out, HQ.out]; exact HM.out) rfl rfl rfl S4 S5 S6 (SD D hKD) hD0 (SD E hKE) hE0 nDE SB
              · by_cases h1 : 1099511627776 < sp
                · have HM := hide (show endM false te cl = ⟨0, 0, 2⟩ by rw [HM2.out, if_neg (fun h => by omega)])
                  clear HM2
                  gi_wp2
                  obtain ⟨S4, S5, S6, SB, SD⟩ := three_set R4 R5 R6 (.int .i64 0) (.int .i64 0) (.int .i64 2) n45 n46 n56 hB (by omega) (by omega) (by omega)
                  exact leave2 (n := 5) (by rw [← HTE.out, ← HCL.out, HQ.out]; exact HM.out) rfl rfl rfl S4 S5 S6 (SD D hKD) hD0 (SD E hKE) hE0 nDE SB
                · have HM := hide (show endM false te cl = ⟨1, sp, 0⟩ by rw [HM2.out, if_pos ⟨by omega, by omega⟩])
                  clear HM2
                  gi_wp2
                  gi_region
                  gi_wp2
                  obtain ⟨S4, S5, S6, SB, SD⟩ := three_set R4 R5 R6 (.int .i64 1) (.int .i64 sp) (.int .i64 0) n45 n46 n56 hB (by omega) (by omega) (by omega)
                  exact leave2 (n := 5) (by rw [← HTE.out, ← HCL.out, HQ.out]; exact HM.out) rfl rfl rfl S4.drew S5.drew S6.drew (SD D hKD) hD0 (SD E hKE) hE0 nDE SB.drew
        · have hp7 : 0 < nn := by omega
          have HCO := hide (endM_cod (te := te) (cl := cl) (by rw [← HNI.out]; exact hn0))
          clear hn0
          by_cases h1 : nn = 1
          · have e1 : ((nn : Int) != 1) = false := bneF (by omega)
            have HAL := hide (HALL.out h1)
            have HL1 := hide (show (itemsV te).length = 1 by rw [← HNI.out]; exact h1)
            clear h1 HALL
            by_cases h2 : oo = 1
            · have e2 : ((oo : Int) != 1) = false := bneF (by omega)
              by_cases h3 : 0 < cl.length
              · have HM := hide (show endM false te cl = ⟨0, 0, 2⟩ by rw [HCO.out, if_neg (fun h => by have := List.isEmpty_iff.1 h.2.2; rw [this] at h3; exact absurd h3 (Nat.lt_irrefl 0))])
                clear h2 HCO HAL HL1
                gi_wp2
                obtain ⟨S4, S5, S6, SB, SD⟩ := three_set R4 R5 R6 (.int .i64 0) (.int .i64 0) (.int .i64 2) n45 n46 n56 hB5 (by omega) (by omega) (by omega)
                exact leave1 (n := 5) (by rw [← HTE.out, ← HCL.out, HQ.out]; exact HM.out) rfl rfl rfl S4 S5 S6 (SD D hK5) hD0 SB
              · have HM := hide (show endM false te cl = ⟨2, 0, 0⟩ by rw [HCO.out, if_pos ⟨HL1.out, by rw [HAL.out]; exact decide_eq_true h2, by rw [List.isEmpty_iff]; exact List.eq_nil_of_length_eq_zero (by omega)⟩])
                clear h2 HCO HAL HL1
                gi_wp2
                obtain ⟨S4, S5, S6, SB, SD⟩ := three_set R4 R5 R6 (.int .i64 2) (.int .i64 0) (.int .i64 0) n45 n46 n56 hB5 (by omega) (by omega) (by omega)
                exact leave1 (n := 5) (by rw [← HTE.out, ← HCL.out, HQ.out]; exact HM.out) rfl rfl rfl S4 S5 S6 (SD D hK5) hD0 SB
            · have e2 : ((oo : Int) != 1) = true := bneT (by omega)
              have HM := hide (show endM false te cl = ⟨0, 0, 2⟩ by rw [HCO.out, if_neg (fun h => by rw [HAL.out] at h; exact h2 (of_decide_eq_true h.2.1))])
              clear h2 HCO HAL HL1
              gi_wp2
              obtain ⟨S4, S5, S6, SB, SD⟩ := three_set R4 R5 R6 (.int .i64 0) (.int .i64 0) (.int .i64 2) n45 n46 n56 hB5 (by omega) (by omega) (by omega)
              exact leave1 (n := 5) (by rw [← HTE.out, ← HCL.out, HQ.out]; exact HM.out) rfl rfl rfl S4 S5 S6 (SD D hK5) hD0 SB
          · have e1 : ((nn : Int) != 1) = true := bneT (by omega)
            have HM := hide (show endM false te cl = ⟨0, 0, 2⟩ by rw [HCO.out, if_neg (fun h => h1 (HNI.out.trans h.1))])
            clear h1 HCO HALL
            gi_wp2
            obtain ⟨S4, S5, S6, SB, SD⟩ := three_set R4 R5 R6 (.int .i64 0) (.int .i64 0) (.int .i64 2) n45 n46 n56 hB5 (by omega) (by omega) (by omega)
            exact leave1 (n := 5) (by rw [← HTE.out, ← HCL.out, HQ.out]; exact HM.out) rfl rfl rfl S4 S5 S6 (SD D hK5) hD0 SB
    · have HQ := hide q2
      clear q2
      gi_wp2
      obtain ⟨S4, S5, S6, SB, SD⟩ := three_set R4 R5 R6 (.int .i64 4) (.int .i64 0) (.int .i64 0) n45 n46 n56 hB1 (by omega) (by omega) (by omega)
      exact leave0 (n := 5) (endM_none _ _ _ (by rw [HQ.out]; rfl)) rfl rfl rfl S4 S5 S6  SB
  · have d1 : (asked.toList == [72, 69, 65, 68]) = true := q1
    clear q1
    gi_wp2
    refine ⟨trivial, ?_⟩
    gi_wp2
    exact leave0 (n := 5) (a := 4) (b := 0) (c := 0) (endM_none _ _ _ rfl) rfl rfl rfl (((Blk.new' (by simp)).alloc _).alloc _) ((Blk.new' (by simp)).alloc _) (Blk.new' (by simp)) (((((Below.refl _ _).alloc (Nat.le_refl _) _).alloc (by simp) _).alloc (by simp; omega) _).alloc (by simp; omega) _)

end Go.Proofs.YtiigkacmahecaaaDoor
