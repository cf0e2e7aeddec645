/-
  A tag among some: both functions.
-/
import Derived.Test.YtkkhiahdmlmecaaDoorTagC
namespace Go.Proofs.YtkkhiahdmlmecaaDoor
open Go.RowKit

/-- A slice of tags that can be read, below block B. -/
def RdTags (w : World) (B : Nat) (v : Value) (ts : List Tag) : Prop :=
  ts.length ≤ 9223372036854775807 ∧ (∀ t ∈ ts, t.1.size ≤ 9223372036854775807) ∧ ∃ (A : Option Addr) (c : Nat), v = .slice A ts.length c ∧
    ∀ i (h : i < ts.length), ∃ b off, A = some ⟨b, off, none⟩ ∧ b < B ∧ w.cell? ⟨b, off + i * 2, none⟩ = some (.string ts[i].1) ∧ w.cell? ⟨b, off + i * 2 + 1, none⟩ = some (.bool ts[i].2)

theorem RdTags.below {w w' : World} {B : Nat} {v : Value} {ts : List Tag} (h : RdTags w B v ts) (hb : Below B w w') : RdTags w' B v ts := by
  obtain ⟨h0, h1, A, c, hv, hc⟩ := h
  refine ⟨h0, h1, A, c, hv, fun i hi => ?_⟩
  obtain ⟨b, off, e, hlt, c1, c2⟩ := hc i hi
  exact ⟨b, off, e, hlt, by rw [hb.cell hlt]; exact c1, by rw [hb.cell hlt]; exact c2⟩
theorem RdTags.mono {w : World} {B B' : Nat} {v : Value} {ts : List Tag} (h : RdTags w B v ts) (hB : B ≤ B') : RdTags w B' v ts := by
  obtain ⟨h0, h1, A, c, hv, hc⟩ := h
  refine ⟨h0, h1, A, c, hv, fun i hi => ?_⟩
  obtain ⟨b, off, e, hlt, c1, c2⟩ := hc i hi
  exact ⟨b, off, e, by omega, c1, c2⟩

def inB (ts : List Tag) (t : Tag) (strict : Bool) : Bool := ts.any fun x => if strict then strongB x t else weakB x t

end Go.Proofs.YtkkhiahdmlmecaaDoor
