/-
  What the drawn regions of control's laws want.
-/
import Derived.Test.YtlfldnogjndglaaDoorCtlX
import Derived.Test.YtlfldnogjndglaaDoorRcpG
import Derived.ChangeKeysEq
namespace Go.Proofs.YtlfldnogjndglaaDoor
open Go.RowKit
set_option linter.unusedVariables false
set_option linter.unusedSimpArgs false

/-- A world behind a call that makes memory, in a class of worlds. -/
theorem below_via {B : Nat} {a X w' : World} {p : Prop} (h : Below B a X ∧ p) (hB : B ≤ a.heap.size) (k : Below X.heap.size X w') : Below B a w' := h.1.trans (k.mono (Nat.le_trans hB h.1.size))
theorem own_via {α : Type} {L : Lay α} {B : Nat} {a X w' : World} {p : Prop} {v : Value} {l : List α} (h : Below B a X ∧ p) (hB : B ≤ a.heap.size) (O : OwnL L X.heap.size w' v l) : OwnL L B w' v l := O.mono (Nat.le_trans hB h.1.size)
theorem new_below {X w' : World} {t : TypeId} {cs : Array Value} (hb : Below (X.alloc (.cells cs t)).heap.size (X.alloc (.cells cs t)) w') : Blk w' X.heap.size t cs := (Blk.new X t cs).below hb (by simp)
theorem new_below_d {X w' : World} {t : TypeId} {cs : Array Value} (hb : Below (X.alloc (.cells cs t)).drew.heap.size (X.alloc (.cells cs t)).drew w') : Blk w' X.heap.size t cs := (Blk.new X t cs).drew.below hb (by simp)
theorem keep_below {X w' : World} {g : Nat} {t : TypeId} {cs : Array Value} (h : Blk X g t cs) (hb : Below X.heap.size X w') : Blk w' g t cs := h.below hb h.lt
theorem set11 {w : World} {g : Nat} {t : TypeId} {a0 a1 a2 a3 a4 a5 a6 a7 a8 a9 a10 : Value} (h : Blk w g t #[a0, a1, a2, a3, a4, a5, a6, a7, a8, a9, a10]) (b0 b1 b2 b3 b4 b5 b6 b7 b8 b9 b10 : Value) :
    Blk (((((((((((w.setCell ⟨g, 0, none⟩ b0).setCell ⟨g, 1, none⟩ b1).setCell ⟨g, 2, none⟩ b2).setCell ⟨g, 3, none⟩ b3).setCell ⟨g, 4, none⟩ b4).setCell ⟨g, 5, none⟩ b5).setCell ⟨g, 6, none⟩ b6).setCell ⟨g, 7, none⟩ b7).setCell ⟨g, 8, none⟩ b8).setCell ⟨g, 9, none⟩ b9).setCell ⟨g, 10, none⟩ b10) g t #[b0, b1, b2, b3, b4, b5, b6, b7, b8, b9, b10] := by
  have := ((((((((((h.set_ 0 b0).set_ 1 b1).set_ 2 b2).set_ 3 b3).set_ 4 b4).set_ 5 b5).set_ 6 b6).set_ 7 b7).set_ 8 b8).set_ 9 b9).set_ 10 b10
  simpa using this
theorem below_set11 {B : Nat} {a w : World} (h : Below B a w) {g : Nat} (hg : B ≤ g) (b0 b1 b2 b3 b4 b5 b6 b7 b8 b9 b10 : Value) :
    Below B a (((((((((((w.setCell ⟨g, 0, none⟩ b0).setCell ⟨g, 1, none⟩ b1).setCell ⟨g, 2, none⟩ b2).setCell ⟨g, 3, none⟩ b3).setCell ⟨g, 4, none⟩ b4).setCell ⟨g, 5, none⟩ b5).setCell ⟨g, 6, none⟩ b6).setCell ⟨g, 7, none⟩ b7).setCell ⟨g, 8, none⟩ b8).setCell ⟨g, 9, none⟩ b9).setCell ⟨g, 10, none⟩ b10) := by
  repeat (refine below_set ?_ hg _)
  exact h
theorem own_set11 {α : Type} {L : Lay α} {B : Nat} {w : World} {v : Value} {l : List α} {g : Nat} (h : OwnL L B w v l) (hg : v.ownBlock ≠ some g) (b0 b1 b2 b3 b4 b5 b6 b7 b8 b9 b10 : Value) :
    OwnL L B (((((((((((w.setCell ⟨g, 0, none⟩ b0).setCell ⟨g, 1, none⟩ b1).setCell ⟨g, 2, none⟩ b2).setCell ⟨g, 3, none⟩ b3).setCell ⟨g, 4, none⟩ b4).setCell ⟨g, 5, none⟩ b5).setCell ⟨g, 6, none⟩ b6).setCell ⟨g, 7, none⟩ b7).setCell ⟨g, 8, none⟩ b8).setCell ⟨g, 9, none⟩ b9).setCell ⟨g, 10, none⟩ b10) v l := by
  repeat (refine OwnL.far ?_ hg _)
  exact h
theorem cellsI : Tryd.prog.cellsOf 2 = 1 := by kernel_rfl
theorem infoI : (Tryd.prog.info? 2).isSome = true := by kernel_rfl
def ApplyIs (mt : ByteArray) (mk : Bool) (md ln hv : Int) (tn : ByteArray) (ks : List Bs) (f1 f2 f3 : Int) (kb : Bool) (w : World) (e : Ending) (w' : World) : Prop :=
  ∃ kv2, e = .returned (.agg #[.string mt, .bool mk, .int .i64 md, .int .i64 ln, .int .i64 hv, .int .i64 f1, .int .i64 f2, .int .i64 f3, kv2, .string tn, .bool kb]) ∧ OwnL LS w.heap.size w' kv2 ks ∧ Below w.heap.size w w'
theorem capply_is (mt : ByteArray) (mk : Bool) (md ln hv fr wh er : Int) (kv : Value) (tn : ByteArray) (kp : Bool) (ks : List Bs) (mx sh wh2 er2 : Int) (ns nc pv : Bool) (w : World) (hr : RdL LS w w.heap.size kv ks) (hk : ks.length ≤ 1000000)
    {f1 f2 f3 : Int} {kb : Bool} (h1 : freshV mx sh nc = f1) (h2 : whileV wh2 nc = f2) (h3 : whileV er2 nc = f3) (h4 : keepV ns pv = kb) :
    Calls Tryd.prog 7 #[.agg #[.string mt, .bool mk, .int .i64 md, .int .i64 ln, .int .i64 hv, .int .i64 fr, .int .i64 wh, .int .i64 er, kv, .string tn, .bool kp], .agg #[.int .i64 mx, .int .i64 sh, .int .i64 wh2, .int .i64 er2, .bool ns, .bool nc, .bool pv]] w (ApplyIs mt mk md ln hv tn ks f1 f2 f3 kb w) := by
  subst h1 h2 h3 h4
  exact capply_any mt mk md ln hv fr wh er kv tn kp ks mx sh wh2 er2 ns nc pv w hr hk
def RApplyIs (mt : ByteArray) (mk : Bool) (md ln hv : Int) (kv : Value) (tn : ByteArray) (f1 f2 f3 : Int) (kb : Bool) (w : World) (e : Ending) (w' : World) : Prop :=
  e = .returned (.agg #[.string mt, .bool mk, .int .i64 md, .int .i64 ln, .int .i64 hv, .int .i64 f1, .int .i64 f2, .int .i64 f3, kv, .string tn, .bool kb]) ∧ Below w.heap.size w w'
end Go.Proofs.YtlfldnogjndglaaDoor
