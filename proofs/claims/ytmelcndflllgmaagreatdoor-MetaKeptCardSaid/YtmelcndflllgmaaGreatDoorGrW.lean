/-
  Merged: CtlW, CtlX, CtlV, CtlU.
-/
import Derived.Test.YtmelcndflllgmaaGreatDoorGrCe
import Derived.Test.YtmelcndflllgmaaGreatDoorCpG
import Derived.Test.YtmelcndflllgmaaGreatDoorGrCt
import Derived.Test.YtmelcndflllgmaaGreatDoorRcpG
import Derived.ChangeKeysEq
import Derived.Test.YtmelcndflllgmaaGreatDoorBut
import Derived.Deep.MidRow
namespace Go.Proofs.YtmelcndflllgmaaGreatDoor
open Go.RowKit
set_option linter.unusedVariables false
set_option linter.unusedSimpArgs false

theorem wake_parse : parsesV [[77, 65, 88, 45, 65, 71, 69, 61, 57, 44, 32, 112, 114, 105, 118, 97, 116, 101], [109, 97, 120, 45, 97, 103, 101, 61, 34, 53, 34, 44, 120, 61, 49]] = ⟨5, -1, -1, -1, false, false, true⟩ := by kernel_rfl
theorem wake_text : ctlText 5 (-1) (-1) (-1) false false true = [112, 114, 105, 118, 97, 116, 101, 44, 32, 109, 97, 120, 45, 97, 103, 101, 61, 53] := by kernel_rfl
theorem wake_of : ofC 4 0 7 true = #[.int .i64 (-1), .int .i64 4, .int .i64 (-1), .int .i64 7, .bool false, .bool false, .bool false] := by kernel_rfl
theorem wake_age : ageV [32, 49, 50, 9] = 12 := by kernel_rfl
theorem wake_none : ageV [45, 49] = -1 := by kernel_rfl
def AgeIs (n e : Int) (w : World) (en : Ending) (w' : World) : Prop := en = .returned (.tuple #[.int .i64 n, .int .i64 e]) ∧ Below w.heap.size w w'
theorem age12 (w : World) : Calls Tryz.prog 23 #[.string ⟨#[32, 49, 50, 9]⟩] w (AgeIs 12 0 w) := by
  refine (cage_any ⟨#[32, 49, 50, 9]⟩ w (by decide)).mono fun e w' h => ?_
  obtain ⟨h, hb⟩ := h
  have e1 : (⟨#[32, 49, 50, 9]⟩ : ByteArray).data.toList = [32, 49, 50, 9] := rfl
  rw [e1, wake_age] at h
  exact ⟨h, hb⟩
theorem age_no (w : World) : Calls Tryz.prog 23 #[.string ⟨#[45, 49]⟩] w (AgeIs 0 2 w) := by
  refine (cage_any ⟨#[45, 49]⟩ w (by decide)).mono fun e w' h => ?_
  obtain ⟨h, hb⟩ := h
  have e1 : (⟨#[45, 49]⟩ : ByteArray).data.toList = [45, 49] := rfl
  rw [e1, wake_none] at h
  exact ⟨h, hb⟩

end Go.Proofs.YtmelcndflllgmaaGreatDoor
namespace Go.Proofs.YtmelcndflllgmaaGreatDoor
open Go.RowKit
set_option linter.unusedVariables false
set_option linter.unusedSimpArgs false

def keepN (b : Bool) : Int := if b = true then 1 else 0

/-- How much values are. -/
def sumL : List Bs → Nat
  | [] => 0
  | x :: l => 1 + x.length + sumL l
theorem sumL_app (a b : List Bs) : sumL (a ++ b) = sumL a + sumL b := by
  induction a with
  | nil => simp [sumL]
  | cons x a ih => rw [List.cons_append, sumL, sumL, ih]; omega
theorem sumL_take {l : List Bs} {k : Nat} (h : k < l.length) : sumL (l.take (k + 1)) = sumL (l.take k) + (1 + l[k].length) := by
  rw [List.take_succ_eq_append_getElem h, sumL_app]; rfl
theorem sumL_le (l : List Bs) (k : Nat) : sumL (l.take k) ≤ sumL l := by
  have := sumL_app (l.take k) (l.drop k)
  rw [List.take_append_drop] at this; omega
theorem sumL_mem {l : List Bs} {x : Bs} (h : x ∈ l) : x.length ≤ sumL l := by
  induction l with
  | nil => cases h
  | cons y l ih =>
    rw [sumL]
    rcases List.mem_cons.1 h with rfl | h
    · omega
    · have := ih h; omega
def BoolGot (b : Bool) (w : World) (e : Ending) (w' : World) : Prop := e = .returned (.bool b) ∧ w = w'

end Go.Proofs.YtmelcndflllgmaaGreatDoor
namespace Go.Proofs.YtmelcndflllgmaaGreatDoor
open Go.RowKit
set_option linter.unusedVariables false
set_option linter.unusedSimpArgs false

/-- A world behind a call that makes memory, in a class of worlds. -/
theorem below_via {B : Nat} {a X w' : World} {p : Prop} (h : Below B a X ∧ p) (hB : B ≤ a.heap.size) (k : Below X.heap.size X w') : Below B a w' := h.1.trans (k.mono (Nat.le_trans hB h.1.size))
theorem own_via {α : Type} {L : Lay α} {B : Nat} {a X w' : World} {p : Prop} {v : Value} {l : List α} (h : Below B a X ∧ p) (hB : B ≤ a.heap.size) (O : OwnL L X.heap.size w' v l) : OwnL L B w' v l := O.mono (Nat.le_trans hB h.1.size)
theorem new_below {X w' : World} {t : TypeId} {cs : Array Value} (hb : Below (X.alloc (.cells cs t)).heap.size (X.alloc (.cells cs t)) w') : Blk w' X.heap.size t cs := (Blk.new X t cs).below hb (by simp)
theorem new_below_d {X w' : World} {t : TypeId} {cs : Array Value} (hb : Below (X.alloc (.cells cs t)).drew.heap.size (X.alloc (.cells cs t)).drew w') : Blk w' X.heap.size t cs := (Blk.new X t cs).drew.below hb (by simp)
theorem keep_below {X w' : World} {g : Nat} {t : TypeId} {cs : Array Value} (h : Blk X g t cs) (hb : Below X.heap.size X w') : Blk w' g t cs := h.below hb h.lt
theorem set11 {w : World} {g : Nat} {t : TypeId} {a0 a1 a2 a3 a4 a5 a6 a7 a8 a9 a10 : Value} (h : Blk w g t #[a0, a1, a2, a3, a4, a5, a6, a7, a8, a9, a10]) (b0 b1 b2 b3 b4 b5 b6 b7 b8 b9 b10 : Value) :
    Blk (((((((((((w.setCell ⟨g, 0, none⟩ b0).setCell ⟨g, 1, none⟩ b1).setCell ⟨g, 2, none⟩ b2).setCell ⟨g, 3, none⟩ b3).setCell ⟨g, 4, none⟩ b4).setCell ⟨g, 5, none⟩ b5).setCell ⟨g, 6, none⟩ b6).setCell ⟨g, 7, none⟩ b7).setCell ⟨g, 8, none⟩ b8).setCell ⟨g, 9, none⟩ b9).setCell ⟨g, 10, none⟩ b10) g t #[b0, b1, b2, b3, b4, b5, b6, b7, b8, b9, b10] := by
  have := ((((((((((h.set_ 0 b0).set_ 1 b1).set_ 2 b2).set_ 3 b3).set_ 4 b4).set_ 5 b5).set_ 6 b6).set_ 7 b7).set_ 8 b8).set_ 9 b9).set_ 10 b10
  simpa using this
theorem below_set11 {B : Nat} {a w : World} (h : Below B a w) {g : Nat} (hg : B ≤ g) (b0 b1 b2 b3 b4 b5 b6 b7 b8 b9 b10 : Value) :
    Below B a (((((((((((w.setCell ⟨g, 0, none⟩ b0).setCell ⟨g, 1, none⟩ b1).setCell ⟨g, 2, none⟩ b2).setCell ⟨g, 3, none⟩ b3).setCell ⟨g, 4, none⟩ b4).setCell ⟨g, 5, none⟩ b5).setCell ⟨g, 6, none⟩ b6).setCell ⟨g, 7, none⟩ b7).setCell ⟨g, 8, none⟩ b8).setCell ⟨g, 9, none⟩ b9).setCell ⟨g, 10, none⟩ b10) := by
  repeat (refine below_set ?_ hg _)
  exact h
theorem own_set11 {α : Type} {L : Lay α} {B : Nat} {w : World} {v : Value} {l : List α} {g : Nat} (h : OwnL L B w v l) (hg : v.ownBlock ≠ some g) (b0 b1 b2 b3 b4 b5 b6 b7 b8 b9 b10 : Value) :
    OwnL L B (((((((((((w.setCell ⟨g, 0, none⟩ b0).setCell ⟨g, 1, none⟩ b1).setCell ⟨g, 2, none⟩ b2).setCell ⟨g, 3, none⟩ b3).setCell ⟨g, 4, none⟩ b4).setCell ⟨g, 5, none⟩ b5).setCell ⟨g, 6, none⟩ b6).setCell ⟨g, 7, none⟩ b7).setCell ⟨g, 8, none⟩ b8).setCell ⟨g, 9, none⟩ b9).setCell ⟨g, 10, none⟩ b10) v l := by
  repeat (refine OwnL.far ?_ hg _)
  exact h
theorem cellsI : Tryz.prog.cellsOf 2 = 1 := by kernel_rfl
theorem infoI : (Tryz.prog.info? 2).isSome = true := by kernel_rfl
def ApplyIs (mt : ByteArray) (mk : Bool) (md ln hv : Int) (tn : ByteArray) (ks : List Bs) (f1 f2 f3 : Int) (kb : Bool) (w : World) (e : Ending) (w' : World) : Prop :=
  ∃ kv2, e = .returned (.agg #[.string mt, .bool mk, .int .i64 md, .int .i64 ln, .int .i64 hv, .int .i64 f1, .int .i64 f2, .int .i64 f3, kv2, .string tn, .bool kb]) ∧ OwnL LS w.heap.size w' kv2 ks ∧ Below w.heap.size w w'
theorem capply_is (mt : ByteArray) (mk : Bool) (md ln hv fr wh er : Int) (kv : Value) (tn : ByteArray) (kp : Bool) (ks : List Bs) (mx sh wh2 er2 : Int) (ns nc pv : Bool) (w : World) (hr : RdL LS w w.heap.size kv ks) (hk : ks.length ≤ 1000000)
    {f1 f2 f3 : Int} {kb : Bool} (h1 : freshV mx sh nc = f1) (h2 : whileV wh2 nc = f2) (h3 : whileV er2 nc = f3) (h4 : keepV ns pv = kb) :
    Calls Tryz.prog 17 #[.agg #[.string mt, .bool mk, .int .i64 md, .int .i64 ln, .int .i64 hv, .int .i64 fr, .int .i64 wh, .int .i64 er, kv, .string tn, .bool kp], .agg #[.int .i64 mx, .int .i64 sh, .int .i64 wh2, .int .i64 er2, .bool ns, .bool nc, .bool pv]] w (ApplyIs mt mk md ln hv tn ks f1 f2 f3 kb w) := by
  subst h1 h2 h3 h4
  exact capply_any mt mk md ln hv fr wh er kv tn kp ks mx sh wh2 er2 ns nc pv w hr hk
def RApplyIs (mt : ByteArray) (mk : Bool) (md ln hv : Int) (kv : Value) (tn : ByteArray) (f1 f2 f3 : Int) (kb : Bool) (w : World) (e : Ending) (w' : World) : Prop :=
  e = .returned (.agg #[.string mt, .bool mk, .int .i64 md, .int .i64 ln, .int .i64 hv, .int .i64 f1, .int .i64 f2, .int .i64 f3, kv, .string tn, .bool kb]) ∧ Below w.heap.size w w'
theorem rcapply_is (mt : ByteArray) (mk : Bool) (md ln hv fr wh er : Int) (A : Option Addr) (n c : Nat) (tn : ByteArray) (kp : Bool) (mx sh wh2 er2 : Int) (ns nc pv : Bool) (w : World)
    {f1 f2 f3 : Int} {kb : Bool} (h1 : freshV mx sh nc = f1) (h2 : whileV wh2 nc = f2) (h3 : whileV er2 nc = f3) (h4 : keepV ns pv = kb) :
    Calls Tryz.prog 28 #[.agg #[.string mt, .bool mk, .int .i64 md, .int .i64 ln, .int .i64 hv, .int .i64 fr, .int .i64 wh, .int .i64 er, .slice A n c, .string tn, .bool kp], .agg #[.int .i64 mx, .int .i64 sh, .int .i64 wh2, .int .i64 er2, .bool ns, .bool nc, .bool pv]] w (RApplyIs mt mk md ln hv (.slice A n c) tn f1 f2 f3 kb w) := by
  subst h1 h2 h3 h4
  exact rcapply_any mt mk md ln hv fr wh er A n c tn kp mx sh wh2 er2 ns nc pv w

end Go.Proofs.YtmelcndflllgmaaGreatDoor
namespace Go.Proofs.YtmelcndflllgmaaGreatDoor
open Go.RowKit
set_option linter.unusedVariables false
set_option linter.unusedSimpArgs false

/-- append onto an own slice, its guard none or met. -/
theorem wpList_appLW {α : Type} (L : Lay α) {ops : Array Oper} {rest : List Oper} {o : Oper} {a : Act} {Q : Exit → Act → World → Prop} {w : World} (w0 : World) (hw : Region.wanted o (yielded ops a.tmps) = true) (s x : Operand) (t1 t2 : TypeId)
    (ho : o.op = .call { callee := .builtin .append, args := #[s, x], argTypes := #[t1, t2] }) (ht1 : t1 = L.t) (ht2 : t2 = L.t)
    (B : Nat) (v : Value) (l : List α) (hs : a.eval s = v) (hown : OwnL L B w v l) (hb0 : Below B w0 w) (hB : B ≤ w.heap.size)
    (u : Value) (ns : List α) (C : Nat) (hx : a.eval x = u) (hu : RdL L w C u ns)
    (hL : L.bytes ≤ 1024) (h63 : l.length + ns.length ≤ 1000000000)
    (h : ∀ v' w', OwnL L B w' v' (l ++ ns) → Below B w0 w' → wpList Tryz.prog ops Q rest (a.put o.dst v') w') : wpList Tryz.prog ops Q (o :: rest) a w := by
  subst ht1 ht2
  obtain ⟨v', w', hrun, h1, h2, _⟩ := run_appL o.type B v l hown hB u ns C hu hL h63
  refine BigFrame.wpList_want hw fun K hK => ?_
  unfold Oper.wp execOp
  simp only [ho, resolve, invoke, builtin, Sem.run_bind, Sem.run_pure, Result.andThen_ok, List.map_toArray, List.map_cons, List.map_nil, hs, hx, hrun]
  have hr : ∀ k, v.ownBlock = some k → B ≤ k := fun k hk => (hown.lt k hk).1
  exact hK _ _ (h v' w' h1 (hb0.grown h2 hB hr))
/-- append onto an own slice of strings, as long as memory bears it. -/
theorem run_appS {w : World} (ty : TypeId) (B : Nat) (v : Value) (l : List Bs) (hown : OwnL LS B w v l) (hB : B ≤ w.heap.size) (u : Value) (ns : List Bs) (C : Nat) (hu : RdL LS w C u ns) (h63 : (l.length + ns.length) * 16 ≤ 140737488355328) :
    ∃ v' w', (Builtin.append_ #[LS.t, LS.t] ty #[v, u]).run Tryz.prog w = .ok v' w' ∧ OwnL LS B w' v' (l ++ ns) ∧ w.grownBy w' v.ownBlock := by
  obtain ⟨i0, hi, hz0, hz1, hz2⟩ := info_parts LS.info
  obtain ⟨A, c, rfl, _, _⟩ := hu.form
  have hc := hu.at_
  rcases A with _ | ad
  · have hn : ns = [] := by
      rcases ns with _ | ⟨b, ns⟩
      · rfl
      · obtain ⟨_, _, e, _⟩ := hc 0 (by simp)
        cases e
    subst hn
    refine ⟨v, w, ?_, by simpa using hown, World.grownBy.refl w _⟩
    rcases hown.2 with ⟨rfl, _⟩ | ⟨g, cap, cur, rfl, _, _, hnc, _⟩
    · simp [Builtin.append_, run_underlying LS.ht, sizeOf, typeInfo, hi, Builtin.lenOf, Builtin.firstCells]
    · simp [Builtin.append_, run_underlying LS.ht, sizeOf, typeInfo, hi, Builtin.lenOf, Builtin.firstCells, hnc, storeCells]
  · obtain ⟨v', w', hr, h1, h2, _, _⟩ := run_append_own_at (P := Tryz.prog) w B LS.t ty LS.e i0 LS.z LS.n LS.bytes LS.ht hi hz0 hz1 hz2 LS.zs LS.pos v l.length (l.flatMap LS.enc) hown ad ns.length c (ns.flatMap LS.enc) (flat_len LS ns)
      (fun k z hk => by
        obtain ⟨i, j, hi', hj, rfl, hz⟩ := flat_of LS hk
        obtain ⟨b, off, e, _, hcell⟩ := hc i hi'
        simp only [Option.some.injEq] at e
        subst e
        rw [← hcell j z hz, Addr.add_lit, Nat.add_assoc])
      (fun z hz => by
        obtain ⟨x, _, hx⟩ := List.mem_flatMap.1 hz
        exact LS.one x z hx) (by simp only [maxLen]; omega) h63 hB
    exact ⟨v', w', hr, by unfold OwnL; rw [List.length_append, List.flatMap_append]; exact h1, h2⟩
theorem wpList_appS {ops : Array Oper} {rest : List Oper} {o : Oper} {a : Act} {Q : Exit → Act → World → Prop} {w : World} (w0 : World) (hw : Region.wanted o (yielded ops a.tmps) = true) (s x : Operand) (t1 t2 : TypeId)
    (ho : o.op = .call { callee := .builtin .append, args := #[s, x], argTypes := #[t1, t2] }) (ht1 : t1 = LS.t) (ht2 : t2 = LS.t)
    (B : Nat) (v : Value) (l : List Bs) (hs : a.eval s = v) (hown : OwnL LS B w v l) (hb0 : Below B w0 w) (hB : B ≤ w.heap.size)
    (u : Value) (ns : List Bs) (C : Nat) (hx : a.eval x = u) (hu : RdL LS w C u ns) (h63 : (l.length + ns.length) * 16 ≤ 140737488355328)
    (h : ∀ v' w', OwnL LS B w' v' (l ++ ns) → Below B w0 w' → wpList Tryz.prog ops Q rest (a.put o.dst v') w') : wpList Tryz.prog ops Q (o :: rest) a w := by
  subst ht1 ht2
  obtain ⟨v', w', hrun, h1, h2⟩ := run_appS o.type B v l hown hB u ns C hu h63
  refine BigFrame.wpList_want hw fun K hK => ?_
  unfold Oper.wp execOp
  simp only [ho, resolve, invoke, builtin, Sem.run_bind, Sem.run_pure, Result.andThen_ok, List.map_toArray, List.map_cons, List.map_nil, hs, hx, hrun]
  have hr : ∀ k, v.ownBlock = some k → B ≤ k := fun k hk => (hown.lt k hk).1
  exact hK _ _ (h v' w' h1 (hb0.grown h2 hB hr))
theorem new_below2 {X w' : World} {t t2 : TypeId} {cs cs2 : Array Value} (hb : Below ((X.alloc (.cells cs2 t2)).alloc (.cells cs t)).heap.size ((X.alloc (.cells cs2 t2)).alloc (.cells cs t)) w') : Blk w' (X.heap.size + 1) t cs := (Blk.new' (by simp)).below hb (by simp)
theorem new_below_prev {X w' : World} {t t2 : TypeId} {cs cs2 : Array Value} (hb : Below ((X.alloc (.cells cs t)).alloc (.cells cs2 t2)).heap.size ((X.alloc (.cells cs t)).alloc (.cells cs2 t2)) w') : Blk w' X.heap.size t cs := ((Blk.new X t cs).alloc _).below hb (by simp; omega)
theorem new_below2d {X w' : World} {t t2 : TypeId} {cs cs2 : Array Value} (hb : Below ((X.alloc (.cells cs2 t2)).alloc (.cells cs t)).drew.heap.size ((X.alloc (.cells cs2 t2)).alloc (.cells cs t)).drew w') : Blk w' (X.heap.size + 1) t cs := new_below2 ⟨hb.os, hb.tape, hb.output, hb.size, hb.block⟩
theorem new_below_prevd {X w' : World} {t t2 : TypeId} {cs cs2 : Array Value} (hb : Below ((X.alloc (.cells cs t)).alloc (.cells cs2 t2)).drew.heap.size ((X.alloc (.cells cs t)).alloc (.cells cs2 t2)).drew w') : Blk w' X.heap.size t cs := new_below_prev ⟨hb.os, hb.tape, hb.output, hb.size, hb.block⟩
theorem But.setCellsS {g : Nat} {a : World} : ∀ (vs : List Value) (o : Nat) {b : World}, But g a b → But g a (b.setCells g o vs)
  | [], _, _, h => h
  | v :: r, o, _, h => But.setCellsS r (o + 1) (h.set_ v)
theorem Blk.setCellsS {g : Nat} {t : TypeId} : ∀ (vs : List Value) (o : Nat) {w : World} {zs : Array Value}, Blk w g t zs → o + vs.length ≤ zs.size →
    ∃ ys : Array Value, Blk (w.setCells g o vs) g t ys ∧ ys.size = zs.size ∧ ∀ i, ys[i]? = if o ≤ i ∧ i < o + vs.length then vs[i - o]? else zs[i]?
  | [], o, w, zs, h, _ => ⟨zs, h, rfl, fun i => by rw [if_neg (by simp <;> omega)]⟩
  | v :: r, o, w, zs, h, hl => by
    have hlen : (v :: r).length = r.length + 1 := rfl
    obtain ⟨ys, h1, h2, h3⟩ := Blk.setCellsS r (o + 1) (h.set_ o v) (by simp; omega)
    refine ⟨ys, h1, by rw [h2]; simp, fun i => ?_⟩
    rw [h3 i]
    by_cases hi : i = o
    · subst hi
      rw [if_neg (by omega), if_pos (by omega), Nat.sub_self, Array.getElem?_setIfInBounds, if_pos rfl, if_pos (by omega)]
      rfl
    · by_cases hr : o + 1 ≤ i ∧ i < o + 1 + r.length
      · rw [if_pos hr, if_pos (by omega)]
        obtain ⟨k, hk⟩ : ∃ k, i - o = k + 1 := ⟨i - o - 1, by omega⟩
        rw [hk, show i - (o + 1) = k by omega]
        rfl
      · rw [if_neg hr, if_neg (by omega), Array.getElem?_setIfInBounds, if_neg (fun e => hi e.symm)]
theorem Blk.setAllS {w : World} {g : Nat} {t : TypeId} {zs : Array Value} (h : Blk w g t zs) (cells : Array Value) (hs : zs.size = cells.size) : Blk (w.setCells g 0 cells.toList) g t cells := by
  obtain ⟨ys, h1, h2, h3⟩ := Blk.setCellsS cells.toList 0 h (by simp; omega)
  have : ys = cells := by
    apply Array.ext_getElem?
    intro i
    rw [h3 i]
    by_cases hi : i < cells.size
    · rw [if_pos (by simp; omega)]; simp
    · rw [if_neg (by simp; omega), Array.getElem?_eq_none (by omega), Array.getElem?_eq_none (by omega)]
  rw [this] at h1
  exact h1
/-- A struct's store into a block of its own, as a step of a region that draws its order. -/
theorem step_store_box {ops : Array Oper} {o : Oper} {a : Act} {K : Act → World → Prop} {Q : Exit → Act → World → Prop} {E : Prop} {w : World} (x y : Operand) (ty : TypeId) (ho : o.op = .store ty x y) (hw : Region.wanted o (yielded ops a.tmps) = true)
    (g : Nat) (t : TypeId) (zs cells : Array Value) (hx : a.eval x = .pointer (some ⟨g, 0, none⟩)) (hy : a.eval y = .agg cells)
    (hz : Blk w g t zs) (hs : zs.size = cells.size) (hi : (Tryz.prog.info? ty).map (·.size) = some cells.size) (h1 : cells.all (·.oneCell') = true)
    (h : ∀ w', Blk w' g t cells → But g w w' → K (a.put o.dst undef) w') : if Region.wanted o (yielded ops a.tmps) = true then Oper.wp Tryz.prog o a w K Q else E := by
  rw [if_pos hw]
  refine wp_store_mid ty x y ho g 0 cells hx hy (fun j hj => ?_) hi h1 (h _ (hz.setAllS cells hs) (But.setCellsS _ _ (But.refl _ _)))
  rw [Nat.zero_add, hz.cell, hz.frozen]
  exact ⟨by rw [Array.getElem?_eq_getElem (by omega)]; rfl, rfl⟩
theorem ite_guard {c : Prop} [Decidable c] {a b : Prop} (h : if c then a else b) : if c then a else b := h
theorem carry0 {X w' : World} {g : Nat} {t : TypeId} {cs : Array Value} (h : Blk X g t cs) (hb : Below X.heap.size X w') : Blk w' g t cs := h.below hb h.lt
theorem carry1 {X w' : World} {o : Obj} {g : Nat} {t : TypeId} {cs : Array Value} (h : Blk X g t cs) (hb : Below (X.alloc o).heap.size (X.alloc o) w') : Blk w' g t cs := (h.alloc o).below hb (h.alloc o).lt
theorem carry2 {X w' : World} {o o2 : Obj} {g : Nat} {t : TypeId} {cs : Array Value} (h : Blk X g t cs) (hb : Below ((X.alloc o).alloc o2).heap.size ((X.alloc o).alloc o2) w') : Blk w' g t cs := ((h.alloc o).alloc o2).below hb ((h.alloc o).alloc o2).lt
theorem below_a1 {X w' : World} {o : Obj} (hb : Below (X.alloc o).heap.size (X.alloc o) w') : Below X.heap.size X w' := ((Below.refl _ _).alloc (Nat.le_refl _) _).trans (hb.mono (by simp))
theorem below_a2 {X w' : World} {o o2 : Obj} (hb : Below ((X.alloc o).alloc o2).heap.size ((X.alloc o).alloc o2) w') : Below X.heap.size X w' := below_a1 (below_a1 hb)

end Go.Proofs.YtmelcndflllgmaaGreatDoor
