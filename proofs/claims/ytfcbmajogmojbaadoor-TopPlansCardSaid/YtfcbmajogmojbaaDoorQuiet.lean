/-
  A region that draws its order, whose operations read, and whose callees may make memory of their own: one walk, in the text's order, serves every order.
-/
import Derived.Test.YtfcbmajogmojbaaDoorUtil
namespace Go.Proofs.YtfcbmajogmojbaaDoor
open Go.RowKit

/-- A world that is as w0 was below block B. -/
structure Bel (B : Nat) (w0 : World) where
  w : World
  h : Below B w0 w

instance (B : Nat) (w0 : World) : Nonempty (Bel B w0) := ⟨⟨w0, Below.refl _ _⟩⟩

theorem wp_region_bel {id : Nat} {P : Program} {Q : Exit → Act → World → Prop} {a : Act} {w : World} {l : List Oper} (B : Nat) (hm : P.follows .mixedOrders = true) (hB : Region.lexB .any l.toArray = true)
    (h : wpQuiet P l.toArray (fun w' => ∃ x : Bel B w, w' = x.w) (fun a' => ∀ w', (∃ x : Bel B w, w' = x.w) → Q .normal a' w') l a) : (Code.region id l.toArray true).wp P Q a w :=
  wp_region_quiet (C := fun w' => ∃ x : Bel B w, w' = x.w) hm hB ⟨⟨w.drew, (Below.refl _ _).drew⟩, rfl⟩ (by simpa using h)

theorem bel_call {P : Program} {f : FuncId} {args : Array Value} {w : World} {B : Nat} {v : Value} {x : Bel B w} (hB : B ≤ w.heap.size)
    (h : Calls P f args x.w fun e w' => e = .returned v ∧ Below x.w.heap.size x.w w') : Calls P f args x.w fun e w'' => e = .returned v ∧ ∃ y : Bel B w, w'' = y.w :=
  h.mono fun _ w' ⟨he, hb⟩ => ⟨he, ⟨w', x.h.trans (hb.mono (Nat.le_trans hB x.h.size))⟩, rfl⟩
theorem bel_same {P : Program} {f : FuncId} {args : Array Value} {w : World} {B : Nat} {v : Value} {x : Bel B w}
    (h : Calls P f args x.w fun e w' => e = .returned v ∧ x.w = w') : Calls P f args x.w fun e w'' => e = .returned v ∧ ∃ y : Bel B w, w'' = y.w :=
  h.mono fun _ _ ⟨he, hw⟩ => ⟨he, x, hw.symm⟩
theorem Bel.cell {B : Nat} {w : World} (x : Bel B w) {b o : Nat} {v : Value} (h : w.cell? ⟨b, o, none⟩ = some v) (hb : b < B) : x.w.cell? ⟨b, o, none⟩ = some v := by rw [x.h.cell hb]; exact h
end Go.Proofs.YtfcbmajogmojbaaDoor
