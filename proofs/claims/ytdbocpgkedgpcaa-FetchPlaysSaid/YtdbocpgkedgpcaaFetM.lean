/-
  A fetch that is asked, and what is told of no fetch: the program's functions.
-/
import Derived.Test.YtdbocpgkedgpcaaFetD
import Derived.RegionTactic
import Derived.ChangeAlike
import Derived.BigRegion
namespace Go.Proofs.Ytdbocpgkedgpcaa
open Go.RowKit
set_option linter.unusedVariables false
set_option linter.unusedSimpArgs false

/-- All but block g is as it was. -/
structure But (g : Nat) (w w' : World) : Prop where
  bel : ∀ (B : Nat) (w0 : World), Below B w0 w → B ≤ g → Below B w0 w'
  far : ∀ (h : Nat) (t : TypeId) (cs : Array Value), h ≠ g → Blk w h t cs → Blk w' h t cs
  size : w.heap.size ≤ w'.heap.size
theorem But.refl (g : Nat) (w : World) : But g w w := ⟨fun _ _ h _ => h, fun _ _ _ _ h => h, Nat.le_refl _⟩
theorem But.trans {g : Nat} {a b c : World} (h : But g a b) (k : But g b c) : But g a c := ⟨fun B w0 x y => k.bel B w0 (h.bel B w0 x y) y, fun i t cs x y => k.far i t cs x (h.far i t cs x y), Nat.le_trans h.size k.size⟩
theorem But.of_below {g : Nat} {a b : World} (hg : g < a.heap.size) (h : Below a.heap.size a b) : But g a b := ⟨fun B w0 x y => x.trans (h.mono (by omega)), fun i t cs _ y => y.below h y.lt, h.size⟩
theorem But.set_ {g i : Nat} {a b : World} (h : But g a b) (u : Value) : But g a (b.setCell ⟨g, i, none⟩ u) := ⟨fun B w0 x y => below_set (h.bel B w0 x y) y u, fun j t cs x y => (h.far j t cs x y).far (by show j ≠ g; exact x) u, by simpa [World.setCell] using h.size⟩
theorem But.set_new {g k i : Nat} {a b : World} (h : But g a b) (hg : g < a.heap.size) (hk : a.heap.size ≤ k) (u : Value) : But g a (b.setCell ⟨k, i, none⟩ u) := ⟨fun B w0 x y => below_set (h.bel B w0 x y) (by omega) u, fun j t cs x y => (h.far j t cs x y).far (by have := y.lt; show j ≠ k; omega) u, by simpa [World.setCell] using h.size⟩
theorem But.drew {g : Nat} {a b : World} (h : But g a b) : But g a b.drew := ⟨fun B w0 x y => (h.bel B w0 x y).drew, fun j t cs x y => (h.far j t cs x y).drew, h.size⟩
theorem But.drewN {g : Nat} {a b : World} (h : But g a b) (n : Nat) : But g a (b.drewN n) := ⟨fun B w0 x y => below_drewN (h.bel B w0 x y) n, fun j t cs x y => (h.far j t cs x y).drewN n, h.size⟩
theorem But.alloc {g : Nat} {a b : World} (h : But g a b) (hg : g < b.heap.size) (ob : Obj) : But g a (b.alloc ob) := ⟨fun B w0 x y => (h.bel B w0 x y).alloc (by omega) ob, fun j t cs x y => (h.far j t cs x y).alloc ob, Nat.le_trans h.size (by simp)⟩

def TwoInts (a b : Int) (w : World) (e : Ending) (w' : World) : Prop := e = .returned (.tuple #[.int .i64 a, .int .i64 b]) ∧ Below w.heap.size w w'
def SpanInt (a b c : Int) (w : World) (e : Ending) (w' : World) : Prop := e = .returned (.tuple #[.agg #[.int .i64 a, .int .i64 b], .int .i64 c]) ∧ Below w.heap.size w w'
def SpanBool (a b : Int) (c : Bool) (w : World) (e : Ending) (w' : World) : Prop := e = .returned (.tuple #[.agg #[.int .i64 a, .int .i64 b], .bool c]) ∧ Below w.heap.size w w'
def XInts (g : Nat) (cs : Array Value) (a b : Int) (w : World) (e : Ending) (w' : World) : Prop := e = .returned (.tuple #[.int .i64 a, .int .i64 b]) ∧ Blk w' g 74 cs ∧ But g w w'
def XSpan (g : Nat) (cs : Array Value) (a b c : Int) (w : World) (e : Ending) (w' : World) : Prop := e = .returned (.tuple #[.agg #[.int .i64 a, .int .i64 b], .int .i64 c]) ∧ Blk w' g 74 cs ∧ But g w w'
def XInt (g : Nat) (cs : Array Value) (a : Int) (w : World) (e : Ending) (w' : World) : Prop := e = .returned (.int .i64 a) ∧ Blk w' g 74 cs ∧ But g w w'
def NewX (cs : Array Value) (w : World) (e : Ending) (w' : World) : Prop := ∃ g : Nat, e = .returned (.tuple #[.pointer (some ⟨g, 0, none⟩), .int .i64 0]) ∧ w.heap.size ≤ g ∧ Blk w' g 74 cs ∧ Below w.heap.size w w'
def NoX (w : World) (e : Ending) (w' : World) : Prop := e = .returned (.tuple #[.pointer none, .int .i64 1]) ∧ Below w.heap.size w w'

set_option maxRecDepth 100000 in
set_option maxHeartbeats 1000000 in
theorem begin_yes (ob : ByteArray) (fa fb : Int) (ft : ByteArray) (fk : Bool) (nt : ByteArray) (nk : Bool) (w : World) (hob : ob.size ≤ 9223372036854775807) (hft : ft.size ≤ 9223372036854775807) (hnt : nt.size ≤ 9223372036854775807) (h : fRight ob fa fb (ft, fk) (nt, nk) = true) : Calls Try.prog 16 #[.agg #[.string ob, .int .i64 fa, .int .i64 fb, .string ft, .bool fk, .string nt, .bool nk]] w (NewX #[.string ob, .int .i64 fa, .int .i64 fb, .string ft, .bool fk, .string nt, .bool nk, .bool false, .bool false, .int .i64 0, .int .i64 0] w) := by
  go_enter Try.func16, Try.ntmps16
  go_wp2_with fail
  obtain ⟨w1, hw1⟩ : ∃ w1 : World, w1 = (w).alloc (.cells #[.string ob, .int .i64 fa, .int .i64 fb, .string ft, .bool fk, .string nt, .bool nk] 27) := ⟨_, rfl⟩
  rw [← hw1]
  have hB1 : Below w.heap.size w w1 := by rw [hw1]; exact ((Below.refl _ _).alloc (Nat.le_refl _) _)
  have T : Blk w1 (w.heap.size) 27 #[.string ob, .int .i64 fa, .int .i64 fb, .string ft, .bool fk, .string nt, .bool nk] := by rw [hw1]; exact (Blk.new _ _ _)
  clear hw1
  have cT := T.cell
  refine (fright_any _ _ _ _ _ _ _ _ hob hft hnt).mono ?_
  rintro e w2 ⟨rfl, hb2⟩
  have hB2 := hB1.trans (hb2.mono hB1.size)
  replace T := T.below hb2 T.lt
  clear cT hb2
  have cT := T.cell
  rw [h]
  clear h
  go_wp2
  go_ret2
  exact ⟨w2.heap.size, rfl, hB2.size, Blk.new _ _ _, hB2.alloc hB2.size _⟩

set_option maxRecDepth 100000 in
set_option maxHeartbeats 1000000 in
theorem begin_no (ob : ByteArray) (fa fb : Int) (ft : ByteArray) (fk : Bool) (nt : ByteArray) (nk : Bool) (w : World) (hob : ob.size ≤ 9223372036854775807) (hft : ft.size ≤ 9223372036854775807) (hnt : nt.size ≤ 9223372036854775807) (h : fRight ob fa fb (ft, fk) (nt, nk) = false) : Calls Try.prog 16 #[.agg #[.string ob, .int .i64 fa, .int .i64 fb, .string ft, .bool fk, .string nt, .bool nk]] w (NoX w) := by
  go_enter Try.func16, Try.ntmps16
  go_wp2_with fail
  obtain ⟨w1, hw1⟩ : ∃ w1 : World, w1 = (w).alloc (.cells #[.string ob, .int .i64 fa, .int .i64 fb, .string ft, .bool fk, .string nt, .bool nk] 27) := ⟨_, rfl⟩
  rw [← hw1]
  have hB1 : Below w.heap.size w w1 := by rw [hw1]; exact ((Below.refl _ _).alloc (Nat.le_refl _) _)
  have T : Blk w1 (w.heap.size) 27 #[.string ob, .int .i64 fa, .int .i64 fb, .string ft, .bool fk, .string nt, .bool nk] := by rw [hw1]; exact (Blk.new _ _ _)
  clear hw1
  have cT := T.cell
  refine (fright_any _ _ _ _ _ _ _ _ hob hft hnt).mono ?_
  rintro e w2 ⟨rfl, hb2⟩
  have hB2 := hB1.trans (hb2.mono hB1.size)
  replace T := T.below hb2 T.lt
  clear cT hb2
  have cT := T.cell
  rw [h]
  clear h
  go_wp2
  go_ret2
  exact ⟨rfl, hB2⟩

set_option maxRecDepth 100000 in
set_option maxHeartbeats 1000000 in
theorem nil_reply (st : Int) (mt : ByteArray) (mk : Bool) (md ln hv fr wh er : Int) (kv : Value) (tn : ByteArray) (kp : Bool) (sa sb ag : Int) (w : World) : Calls Try.prog 18 #[.pointer none, .agg #[.int .i64 st, .string mt, .bool mk, .int .i64 md, .int .i64 ln, .int .i64 hv, .int .i64 fr, .int .i64 wh, .int .i64 er, kv, .string tn, .bool kp, .int .i64 sa, .int .i64 sb, .int .i64 ag]] w (TwoInts 0 11 w) := by
  go_enter Try.func18, Try.ntmps18
  go_wp2
  go_ret2
  exact ⟨rfl, (Below.refl _ _).alloc (Nat.le_refl _) _⟩

set_option maxRecDepth 100000 in
set_option maxHeartbeats 1000000 in
theorem nil_data (n : Int) (w : World) : Calls Try.prog 20 #[.pointer none, .int .i64 n] w (SpanInt 0 0 11 w) := by
  go_enter Try.func20, Try.ntmps20
  go_wp2
  exact bodyPost_ret (v := .tuple #[.agg #[.int .i64 0, .int .i64 0], .int .i64 11]) (by simp [results, Try.results20, go_sem]) rfl ⟨rfl, (Below.refl _ _).alloc (Nat.le_refl _) _⟩

set_option maxRecDepth 100000 in
set_option maxHeartbeats 1000000 in
theorem nil_close (b : Bool) (w : World) : Calls Try.prog 22 #[.pointer none, .bool b] w (IntOk 11 w) := by
  go_enter Try.func22, Try.ntmps22
  go_wp2
  go_ret
  exact ⟨rfl, Below.refl _ _⟩

set_option maxRecDepth 100000 in
set_option maxHeartbeats 1000000 in
theorem nil_rest  (w : World) : Calls Try.prog 24 #[.pointer none] w (SpanBool 0 0 false w) := by
  go_enter Try.func24, Try.ntmps24
  go_wp2_with fail
  go_quiet (fail)
  go_wp2
  exact bodyPost_ret (v := .tuple #[.agg #[.int .i64 0, .int .i64 0], .bool false]) (by simp [results, Try.results24, go_sem]) rfl ⟨rfl, below_set (below_set (below_drewN ((Below.refl _ _).alloc (Nat.le_refl _) _) _) (Nat.le_refl _) _) (Nat.le_refl _) _⟩

set_option maxRecDepth 100000 in
set_option maxHeartbeats 1000000 in
theorem nil_over  (w : World) : Calls Try.prog 26 #[.pointer none] w (BoolOk true w) := by
  go_enter Try.func26, Try.ntmps26
  go_wp2
  go_ret
  exact ⟨rfl, Below.refl _ _⟩

end Go.Proofs.Ytdbocpgkedgpcaa
