/-
  Merged: Util, Bytes, Quiet.
-/
import Derived.Test.YtlfldnogjndglaaDoorRows
import Derived.WalkKit
import Derived.WalkSpells
import Derived.WalkLawsBesides
import Derived.BigQuiet
import Derived.Deep.Draws
import Derived.Lib.Hide
import Derived.Lib.AppendStr
import Derived.Lib.UnsafeStr
import Derived.Maps.AppendAt
import Derived.Handy
namespace Go.Proofs.YtlfldnogjndglaaDoor
open Go.RowKit

theorem ret_int {k : IntKind} {a b : Int} (h : a = b) : Ending.returned (.int k a) = .returned (.int k b) := by rw [h]
theorem ret_bool {a b : Bool} (h : a = b) : Ending.returned (.bool a) = .returned (.bool b) := by rw [h]
theorem ret_two {k l : IntKind} {a b c d : Int} (h : a = b) (g : c = d) : Ending.returned (.tuple #[.int k a, .int l c]) = .returned (.tuple #[.int k b, .int l d]) := by rw [h, g]
theorem ret_str2 {l : IntKind} {a b : ByteArray} {c d : Int} (h : a = b) (g : c = d) : Ending.returned (.tuple #[.string a, .int l c]) = .returned (.tuple #[.string b, .int l d]) := by rw [h, g]
theorem hide {p : Prop} (h : p) : Hid p := h
theorem unhide {p : Prop} (h : Hid p) : p := h

theorem quiet_left {P : Program} {f : FuncId} {args : Array Value} {w : World} {n : Nat} {v : Value}
    (h : Calls P f args (w.drewN n) fun e w' => e = .returned v ∧ w.drewN n = w') : Calls P f args (w.drewN n) fun e w'' => e = .returned v ∧ ∃ m, w'' = w.drewN m :=
  h.mono fun _ _ ⟨he, hm⟩ => ⟨he, n, hm.symm⟩
theorem quiet_add_left {P : Program} {f : FuncId} {args : Array Value} {w : World} {a n : Nat} {v : Value}
    (h : Calls P f args (w.drewN (a + n)) fun e w' => e = .returned v ∧ w.drewN (a + n) = w') :
    Calls P f args (w.drewN (a + n)) fun e w'' => e = .returned v ∧ ∃ m, w'' = w.drewN (a + m) :=
  h.mono fun _ _ ⟨he, hm⟩ => ⟨he, n, hm.symm⟩
theorem below_drewN {B : Nat} {a w : World} (h : Below B a w) (n : Nat) : Below B a (w.drewN n) := ⟨h.os, h.tape, h.output, h.size, h.block⟩
theorem bcell {W w1 : World} {B : Nat} (hb : Below B W w1) : (∀ b o, b < B → w1.cell? ⟨b, o, none⟩ = W.cell? ⟨b, o, none⟩) ∧ (∀ b o, b < B → w1.frozen? ⟨b, o, none⟩ = W.frozen? ⟨b, o, none⟩) :=
  ⟨fun b o h => hb.cell (p := ⟨b, o, none⟩) h, fun b o h => hb.frozen (p := ⟨b, o, none⟩) h⟩

/-- Block g holds just these cells, none of them frozen. -/
def Blk (w : World) (g : Nat) (t : TypeId) (cs : Array Value) : Prop := w.heap[g]? = some (.cells cs t (0, 0))
section
variable {w w' : World} {g : Nat} {t : TypeId} {cs : Array Value}
theorem Blk.lt (h : Blk w g t cs) : g < w.heap.size := by
  rcases Nat.lt_or_ge g w.heap.size with hlt | hge
  · exact hlt
  · unfold Blk at h; rw [Array.getElem?_eq_none hge] at h; cases h
theorem Blk.cell (h : Blk w g t cs) (i : Nat) : w.cell? ⟨g, i, none⟩ = cs[i]? := cell_of_row w g i cs t (0, 0) h
theorem Blk.frozen (h : Blk w g t cs) (i : Nat) : w.frozen? ⟨g, i, none⟩ = false := by
  unfold Blk at h; simp [World.frozen?, h]
theorem Blk.new (w : World) (t : TypeId) (cs : Array Value) : Blk (w.alloc (.cells cs t)) w.heap.size t cs := heap_alloc_new w _
theorem Blk.new' {w : World} {t : TypeId} {cs : Array Value} {g : Nat} (h : g = w.heap.size) : Blk (w.alloc (.cells cs t)) g t cs := by subst h; exact heap_alloc_new w _
theorem Blk.drew (h : Blk w g t cs) : Blk w.drew g t cs := h
theorem Blk.drewN (h : Blk w g t cs) (n : Nat) : Blk (w.drewN n) g t cs := h
theorem Blk.alloc (h : Blk w g t cs) (o : Obj) : Blk (w.alloc o) g t cs := (Below.heap_alloc w o g h.lt).trans h
theorem Blk.set_ (h : Blk w g t cs) (i : Nat) (u : Value) : Blk (w.setCell ⟨g, i, none⟩ u) g t (cs.setIfInBounds i u) := by
  unfold Blk at h ⊢
  simp [World.setCell, Array.getElem?_modify, h]
theorem Blk.far (h : Blk w g t cs) {p : Addr} (hp : g ≠ p.block) (u : Value) : Blk (w.setCell p u) g t cs := (Below.heap_setCell w p u g hp).trans h
theorem Blk.below {B : Nat} (h : Blk w g t cs) (hb : Below B w w') (hg : g < B) : Blk w' g t cs := (hb.block g hg).trans h
end
theorem below_set {B : Nat} {a w : World} (h : Below B a w) {g i : Nat} (hg : B ≤ g) (u : Value) : Below B a (w.setCell ⟨g, i, none⟩ u) := h.setCell hg u

end Go.Proofs.YtlfldnogjndglaaDoor
namespace Go.Proofs.YtlfldnogjndglaaDoor
open Go.RowKit Go.Lib

theorem u8_info : (Tryd.prog.info? 5).map (fun i => (i.zero, i.size, i.bytes)) = some (some (.int .u8 0), 1, 1) := by kernel_rfl

/-- v is a slice of bytes of the call's own, from block B on, and holds bs. -/
def OwnB (B : Nat) (w : World) (v : Value) (bs : List UInt8) : Prop := w.ownsRow B 5 1 v bs.length (byteCells bs)

theorem OwnB.below {B : Nat} {w w' : World} {v : Value} {bs : List UInt8} {C : Nat} (h : OwnB B w v bs) (hb : Below C w w') (hC : w.heap.size ≤ C) : OwnB B w' v bs := by
  have hg : w.grownBy w' none := ⟨hb.os, hb.tape, hb.output, hb.size, fun k hk _ => hb.block k (by omega)⟩
  refine World.ownsRow.kept h hg ?_
  rcases e : v.ownBlock with _ | k
  · exact .inl rfl
  · exact .inr (by simp)
theorem OwnB.alloc {B : Nat} {w : World} {v : Value} {bs : List UInt8} (h : OwnB B w v bs) (o : Obj) : OwnB B (w.alloc o) v bs := World.ownsRow.alloc h o
theorem OwnB.drew {B : Nat} {w : World} {v : Value} {bs : List UInt8} (h : OwnB B w v bs) : OwnB B w.drew v bs := h
theorem OwnB.drewN {B : Nat} {w : World} {v : Value} {bs : List UInt8} (h : OwnB B w v bs) (n : Nat) : OwnB B (w.drewN n) v bs := h
theorem OwnB.lt {B : Nat} {w : World} {v : Value} {bs : List UInt8} (h : OwnB B w v bs) : ∀ k, v.ownBlock = some k → B ≤ k ∧ k < w.heap.size := World.ownsRow.lt h
theorem OwnB.nil (B : Nat) (w : World) : OwnB B w (.slice none 0 0) [] := World.ownsRow_nil w B _ 1
theorem OwnB.form {B : Nat} {w : World} {v : Value} {bs : List UInt8} (h : OwnB B w v bs) :
    (v = .slice none 0 0 ∧ bs = []) ∨ ∃ g cap, v = .slice (some ⟨g, 0, none⟩) bs.length cap ∧ B ≤ g ∧ g < w.heap.size ∧ bs.length ≤ cap ∧ cap ≤ maxLen ∧ ∀ j (hj : j < bs.length), w.cell? ⟨g, j, none⟩ = some (.int .u8 (bs[j].toNat : Int)) := by
  have hl := OwnB.lt h
  have hc := fun (g : Nat) (hg : v.ownBlock = some g) => World.ownsRow.cells h hg
  rcases h.2 with ⟨rfl, hx⟩ | ⟨g, cap, cur, rfl, hbg, hg, hnc, hcm, _, _⟩
  · exact .inl ⟨rfl, by simpa [byteCells] using hx⟩
  · refine .inr ⟨g, cap, rfl, hbg, (hl g rfl).2, hnc, hcm, fun j hj => ?_⟩
    have := hc g rfl j (.int .u8 (bs[j].toNat : Int)) (by simp [byteCells, List.getElem?_eq_getElem hj])
    simpa [Addr.add_lit] using this

/-- append of one byte that lies in a block of its own. -/
theorem wpList_app1 {ops : Array Oper} {rest : List Oper} {o : Oper} {a : Act} {Q : Exit → Act → World → Prop} {w : World} (w0 : World) (hgd : o.guard = none) (s x : Operand)
    (ho : o.op = .call { callee := .builtin .append, args := #[s, x], argTypes := #[61, 61] })
    (B : Nat) (v : Value) (bs : List UInt8) (hs : a.eval s = v) (hown : OwnB B w v bs) (hb0 : Below B w0 w) (hB : B ≤ w.heap.size)
    (ad : Addr) (c : Nat) (b : UInt8) (hx : a.eval x = .slice (some ad) 1 c) (hnews : w.cell? ad = some (.int .u8 (b.toNat : Int)))
    (h63 : bs.length + 1 ≤ 140737488355328)
    (h : ∀ v' w', OwnB B w' v' (bs ++ [b]) → Below B w0 w' → Below B w w' → wpList Tryd.prog ops Q rest (a.put o.dst v') w') : wpList Tryd.prog ops Q (o :: rest) a w := by
  obtain ⟨i0, hi, hz0, hz1, hz2⟩ := info_parts u8_info
  refine wpList_append_own_at w hgd s x _ ho B 5 i0 (.int .u8 0) 1 1 Tryd.underlying61 hi hz0 hz1 hz2 rfl (by decide) v bs.length (byteCells bs) hs hown ad 1 c [.int .u8 (b.toNat : Int)] hx rfl ?_ ?_ ?_ ?_ hB ?_
  · intro j u hj
    rcases j with _ | j
    · simp at hj; subst hj; simpa [Addr.add] using hnews
    · simp at hj
  · intro u hu; simp at hu; subst hu; rfl
  · simp only [maxLen]; omega
  · omega
  · intro v' w' h1 h2 _ _
    have hr : ∀ k, v.ownBlock = some k → B ≤ k := fun k hk => (hown.lt k hk).1
    refine h v' w' ?_ (hb0.grown h2 hB hr) ((Below.refl _ _).grown h2 hB hr)
    unfold OwnB
    simpa [byteCells] using h1

/-- append of a few bytes that lie in a block of their own. -/
theorem wpList_appn {ops : Array Oper} {rest : List Oper} {o : Oper} {a : Act} {Q : Exit → Act → World → Prop} {w : World} (w0 : World) (hgd : o.guard = none) (s x : Operand)
    (ho : o.op = .call { callee := .builtin .append, args := #[s, x], argTypes := #[61, 61] })
    (B : Nat) (v : Value) (bs : List UInt8) (hs : a.eval s = v) (hown : OwnB B w v bs) (hb0 : Below B w0 w) (hB : B ≤ w.heap.size)
    (ad : Addr) (c : Nat) (ns : List UInt8) (m : Nat) (hm : m = ns.length) (hx : a.eval x = .slice (some ad) m c) (hnews : ∀ j (hj : j < ns.length), w.cell? (ad.add j) = some (.int .u8 (ns[j].toNat : Int)))
    (h63 : bs.length + ns.length ≤ 140737488355328)
    (h : ∀ v' w', OwnB B w' v' (bs ++ ns) → Below B w0 w' → Below B w w' → wpList Tryd.prog ops Q rest (a.put o.dst v') w') : wpList Tryd.prog ops Q (o :: rest) a w := by
  obtain ⟨i0, hi, hz0, hz1, hz2⟩ := info_parts u8_info
  subst hm
  refine wpList_append_own_at w hgd s x _ ho B 5 i0 (.int .u8 0) 1 1 Tryd.underlying61 hi hz0 hz1 hz2 rfl (by decide) v bs.length (byteCells bs) hs hown ad ns.length c (byteCells ns) hx (by simp [byteCells]) ?_ ?_ ?_ ?_ hB ?_
  · intro j u hj
    have hj' : j < ns.length := by
      have := (List.getElem?_eq_some_iff.1 hj).1
      simpa [byteCells] using this
    rw [hnews j hj']
    simp [byteCells, List.getElem?_eq_getElem hj'] at hj
    rw [hj]
  · intro u hu; simp only [byteCells, List.mem_map] at hu; obtain ⟨b, _, rfl⟩ := hu; rfl
  · simp only [maxLen]; omega
  · omega
  · intro v' w' h1 h2 _ _
    have hr : ∀ k, v.ownBlock = some k → B ≤ k := fun k hk => (hown.lt k hk).1
    refine h v' w' ?_ (hb0.grown h2 hB hr) ((Below.refl _ _).grown h2 hB hr)
    unfold OwnB
    simpa [byteCells] using h1

/-- append of a string's bytes. -/
theorem wpList_apps {ops : Array Oper} {rest : List Oper} {o : Oper} {a : Act} {Q : Exit → Act → World → Prop} {w : World} (w0 : World) (hgd : o.guard = none) (sl x : Operand)
    (ho : o.op = .call { callee := .builtin .append, args := #[sl, x], argTypes := #[61, 9] })
    (B : Nat) (v : Value) (bs : List UInt8) (hs : a.eval sl = v) (hown : OwnB B w v bs) (hb0 : Below B w0 w) (hB : B ≤ w.heap.size)
    (s : ByteArray) (hx : a.eval x = .string s)
    (h63 : bs.length + s.size ≤ 140737488355328)
    (h : ∀ v' w', OwnB B w' v' (bs ++ s.data.toList) → Below B w0 w' → Below B w w' → wpList Tryd.prog ops Q rest (a.put o.dst v') w') : wpList Tryd.prog ops Q (o :: rest) a w := by
  obtain ⟨i0, hi, hz0, hz1, hz2⟩ := info_parts u8_info
  refine wpList_append_own_string w hgd sl x _ _ ho B 5 i0 Tryd.underlying61 Tryd.underlying9 hi hz0 hz1 hz2 v bs.length (byteCells bs) hs hown s hx (by simp only [maxLen]; omega) h63 hB ?_
  intro v' w' h1 h2 _
  have hr : ∀ k, v.ownBlock = some k → B ≤ k := fun k hk => (hown.lt k hk).1
  refine h v' w' ?_ (hb0.grown h2 hB hr) ((Below.refl _ _).grown h2 hB hr)
  unfold OwnB
  have e : (bs ++ s.data.toList).length = bs.length + s.size := by rw [List.length_append, Array.length_toList]; rfl
  rw [e]
  simpa [byteCells, strCells] using h1

/-- Two strings one behind the other, the sum under a name. -/
theorem add_named (a b : ByteArray) (n m : Nat) (ha : a.size ≤ n) (hb : b.size ≤ m) (h : n + m ≤ 1000000) :
    ∃ c : ByteArray, Hid (c.data.toList = a.data.toList ++ b.data.toList) ∧ Hid (c.size ≤ n + m) ∧ ∀ X : World, (Op.stringOp .add a b).run Tryd.prog X = .ok (.string c) X :=
  ⟨a ++ b, by show (a ++ b).data.toList = _; simp [ByteArray.data_append], by show (a ++ b).size ≤ _; rw [ByteArray.size_append]; omega, fun X => run_string_add_sum X a b (by omega)⟩

/-- 'make([]byte, 0, n)'. -/
theorem wpList_mkB {ops : Array Oper} {rest : List Oper} {o : Oper} {a : Act} {Q : Exit → Act → World → Prop} {w : World} (hg : o.guard = none) (l c : Operand) (hop : o.op = Op.makeSlice 61 l c)
    (C : Int) (n : Nat) (hl : a.eval l = .int .i64 0) (hc : a.eval c = .int .i64 C) (hC : C = (n : Int)) (hn : n ≤ 140737488355328)
    (h : ∀ v' w', OwnB w.heap.size w' v' [] → Below w.heap.size w w' → wpList Tryd.prog ops Q rest (a.put o.dst v') w') : wpList Tryd.prog ops Q (o :: rest) a w := by
  obtain ⟨i0, hi, hz0, hz1, hz2⟩ := info_parts u8_info
  refine wpList_make_own w hg l c _ hop w.heap.size 5 i0 (.int .u8 0) 1 Tryd.underlying61 hi hz0 hz1 .i64 .i64 C n hl hc hC (by rw [hz2]; omega) (by simp only [maxLen]; omega) (Nat.le_refl _) ?_
  intro w' h1 h2
  exact h _ _ (by unfold OwnB; simpa [byteCells] using h1) ⟨h2.os, h2.tape, h2.output, h2.size, fun k hk => h2.block k hk (by simp)⟩

/-- 'string(b)' of a slice of the call's own. -/
theorem run_ownB_string (w : World) (B : Nat) (v : Value) (bs : List UInt8) (h : OwnB B w v bs) :
    (convert 61 9 v).run Tryd.prog w = .ok (.string ⟨bs.toArray⟩) w := by
  rcases h.form with ⟨rfl, rfl⟩ | ⟨g, cap, rfl, _, _, _, _, hc⟩
  · exact run_convert_bytes_nil w _ _ Tryd.underlying61 Tryd.underlying5 _ _ _ Tryd.underlying9
  · exact run_convert_bytes_back w _ _ _ _ _ bs Tryd.underlying61 Tryd.underlying5 Tryd.underlying9 (fun j hj => by rw [Addr.add_lit]; simpa using hc j hj)
end Go.Proofs.YtlfldnogjndglaaDoor
namespace Go.Proofs.YtlfldnogjndglaaDoor
open Go.RowKit

/-- A world that is as w0 was below block B. -/
structure Bel (B : Nat) (w0 : World) where
  w : World
  h : Below B w0 w

instance (B : Nat) (w0 : World) : Nonempty (Bel B w0) := ⟨⟨w0, Below.refl _ _⟩⟩

theorem wp_region_bel {id : Nat} {P : Program} {Q : Exit → Act → World → Prop} {a : Act} {w : World} {l : List Oper} (B : Nat) (hm : P.follows .mixedOrders = true) (hB : Region.lexB .any l.toArray = true)
    (h : wpQuiet P l.toArray (fun w' => ∃ x : Bel B w, w' = x.w) (fun a' => ∀ w', (∃ x : Bel B w, w' = x.w) → Q .normal a' w') l a) : (Code.region id l.toArray true).wp P Q a w :=
  wp_region_quiet (C := fun w' => ∃ x : Bel B w, w' = x.w) hm hB ⟨⟨w.drew, (Below.refl _ _).drew⟩, rfl⟩ (by simpa using h)

theorem bel_call {P : Program} {f : FuncId} {args : Array Value} {w : World} {B : Nat} {v : Value} {x : Bel B w} (hB : B ≤ w.heap.size)
    (h : Calls P f args x.w fun e w' => e = .returned v ∧ Below x.w.heap.size x.w w') : Calls P f args x.w fun e w'' => e = .returned v ∧ ∃ y : Bel B w, w'' = y.w :=
  h.mono fun _ w' ⟨he, hb⟩ => ⟨he, ⟨w', x.h.trans (hb.mono (Nat.le_trans hB x.h.size))⟩, rfl⟩
theorem bel_same {P : Program} {f : FuncId} {args : Array Value} {w : World} {B : Nat} {v : Value} {x : Bel B w}
    (h : Calls P f args x.w fun e w' => e = .returned v ∧ x.w = w') : Calls P f args x.w fun e w'' => e = .returned v ∧ ∃ y : Bel B w, w'' = y.w :=
  h.mono fun _ _ ⟨he, hw⟩ => ⟨he, x, hw.symm⟩
theorem Bel.cell {B : Nat} {w : World} (x : Bel B w) {b o : Nat} {v : Value} (h : w.cell? ⟨b, o, none⟩ = some v) (hb : b < B) : x.w.cell? ⟨b, o, none⟩ = some v := by rw [x.h.cell hb]; exact h
end Go.Proofs.YtlfldnogjndglaaDoor
