/-
  Bytes of the call's own: where they lie.
-/
import Derived.Test.YteebpclbpclhaaaDoorBut
namespace Go.Proofs.YteebpclbpclhaaaDoor
open Go.RowKit Go.Lib
set_option linter.unusedVariables false
set_option linter.unusedSimpArgs false

theorem OwnB.blk {B : Nat} {w : World} {v : Value} {bs : List UInt8} (h : OwnB B w v bs) (hn : bs ≠ []) : ∃ g cap cur, v = .slice (some ⟨g, 0, none⟩) bs.length cap ∧ B ≤ g ∧ bs.length ≤ cap ∧ Blk w g 5 cur ∧ ∀ j (hj : j < bs.length), cur[j]? = some (.int .u8 (bs[j].toNat : Int)) := by
  have hlen := h
  rcases h.2 with ⟨_, hx⟩ | ⟨g, cap, cur, rfl, hbg, hg, hnc, hcm, hcs, _⟩
  · exact absurd (List.eq_nil_of_length_eq_zero hx) hn
  · have hX : Blk w g 5 cur := hg
    rcases hlen.form with ⟨h1, _⟩ | ⟨g', cap', he, _, h2, h3, h4, hc⟩
    · cases h1
    · simp only [Value.slice.injEq, Option.some.injEq, Addr.mk.injEq, true_and, and_true] at he
      obtain ⟨rfl, rfl⟩ := he
      exact ⟨g, cap, cur, rfl, hbg, hnc, hX, fun j hj => by rw [← hX.cell]; exact hc j hj⟩
theorem OwnB.apart {B : Nat} {w : World} {v : Value} {bs : List UInt8} {g : Nat} (h : OwnB B w v bs) (hg : g < B) : v.ownBlock ≠ some g := fun e => by
  have := (h.lt g e).1
  omega
theorem OwnB.apart2 {B : Nat} {w : World} {v : Value} {bs : List UInt8} {g : Nat} (h : OwnB B w v bs) (hg : w.heap.size ≤ g) : v.ownBlock ≠ some g := fun e => by
  have := (h.lt g e).2
  omega

theorem OwnB.apart_far {B : Nat} {w : World} {v : Value} {bs : List UInt8} {g : Nat} (_h : OwnB B w v bs) (hk : ∀ k, v.ownBlock = some k → k < g) : v.ownBlock ≠ some g := fun e => by
  have := hk g e
  omega

end Go.Proofs.YteebpclbpclhaaaDoor
