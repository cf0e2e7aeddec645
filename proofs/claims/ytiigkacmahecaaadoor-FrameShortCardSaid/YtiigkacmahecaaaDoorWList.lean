/-
  Slices of strings as a walk wants them; the library's contracts (a number's text, a joined list) in those words.
-/
import Derived.Test.YtiigkacmahecaaaDoorGrTs
import Derived.Test.YtiigkacmahecaaaDoorShA
import Derived.Lib.ItoaLen
import Derived.Lib.ItoaMem
import Derived.Lib.AppendIntMem
import Derived.Lib.Join
namespace Go.Proofs.YtiigkacmahecaaaDoor
open Go.RowKit
set_option linter.unusedVariables false
set_option linter.unusedSimpArgs false

/-- A slice of strings. -/
def LW : Lay (List UInt8) where
  t := 64
  e := 9
  n := 1
  bytes := 16
  enc s := [.string ⟨s.toArray⟩]
  len _ := rfl
  one _ u hu := by simp at hu; subst hu; rfl
  pos := by decide
  z := .string ⟨#[]⟩
  ht := Tryd.underlying64
  info := by kernel_rfl
  zs := rfl

/-- The powers' table is laid. -/
def TabW (w : World) : Prop := Lib.TabIs Tryd.prog w "internal/strconv.uint64pow10" .u64 Lib.pow10Tab
theorem TabW.below {w w' : World} (h : TabW w) (hb : Below w.heap.size w w') : TabW w' := by
  unfold TabW Lib.TabIs World.var? at *
  cases hg : Tryd.prog.globalNamed "internal/strconv.uint64pow10" with
  | none => simp [hg] at h
  | some g =>
    simp only [hg, Option.bind_some] at h ⊢
    have hlt : g < w.heap.size := by
      rcases Nat.lt_or_ge g w.heap.size with h' | h'
      · exact h'
      · rw [Array.getElem?_eq_none h'] at h; simp at h
    rw [hb.block g hlt]
    exact h

/-- Blocks of other kinds than rows of e, but for the block bx, are as they were. -/
structure KeptL (e : TypeId) (bx : Nat) (w w' : World) : Prop where
  far : ∀ h t cs, h ≠ bx → t ≠ e → Blk w h t cs → Blk w' h t cs
  size : w.heap.size ≤ w'.heap.size
theorem KeptL.refl (e : TypeId) (bx : Nat) (w : World) : KeptL e bx w w := ⟨fun _ _ _ _ _ h => h, Nat.le_refl _⟩
theorem KeptL.trans {e : TypeId} {bx : Nat} {a b c : World} (h : KeptL e bx a b) (k : KeptL e bx b c) : KeptL e bx a c := ⟨fun g t cs x y z => k.far g t cs x y (h.far g t cs x y z), Nat.le_trans h.size k.size⟩
theorem KeptL.below {e : TypeId} {bx C : Nat} {a b : World} (hb : Below C a b) (hC : a.heap.size ≤ C) : KeptL e bx a b := ⟨fun g t cs _ _ z => z.below hb (Nat.lt_of_lt_of_le z.lt hC), hb.size⟩
theorem KeptL.grown {e : TypeId} {bx : Nat} {a b c : World} {row : Option Nat} (h : KeptL e bx a b) (hg : b.grownBy c row) (hr : ∀ k, row = some k → ∃ cs fz, b.heap[k]? = some (.cells cs e fz)) : KeptL e bx a c :=
  by
  obtain ⟨_, _, _, hs, hbk⟩ := hg
  refine ⟨fun g t cs x y z => ?_, Nat.le_trans h.size hs⟩
  · have hz := h.far g t cs x y z
    by_cases hgr : some g = row
    · obtain ⟨cs', fz, hh⟩ := hr g hgr.symm
      unfold Blk at hz
      rw [hh] at hz
      injection hz with hz
      injection hz with _ ht
      exact absurd ht.symm y
    · have := hbk g hz.lt hgr
      unfold Blk at hz ⊢
      rw [this]; exact hz
theorem KeptL.set_ {e : TypeId} {bx i : Nat} {a b : World} (h : KeptL e bx a b) (u : Value) : KeptL e bx a (b.setCell ⟨bx, i, none⟩ u) := ⟨fun j t cs x y z => (h.far j t cs x y z).far (by show j ≠ bx; exact x) u, by simpa [World.setCell] using h.size⟩
theorem KeptL.alloc {e : TypeId} {bx : Nat} {a b : World} (h : KeptL e bx a b) (o : Obj) : KeptL e bx a (b.alloc o) := ⟨fun j t cs x y z => (h.far j t cs x y z).alloc o, Nat.le_trans h.size (by simp)⟩
theorem KeptL.drew {e : TypeId} {bx : Nat} {a b : World} (h : KeptL e bx a b) : KeptL e bx a b.drew := ⟨fun j t cs x y z => (h.far j t cs x y z).drew, h.size⟩
theorem KeptL.drewN {e : TypeId} {bx : Nat} {a b : World} (h : KeptL e bx a b) (n : Nat) : KeptL e bx a (b.drewN n) := ⟨fun j t cs x y z => (h.far j t cs x y z).drewN n, h.size⟩
/-- The row's own block is of its kind. -/
theorem OwnL.kind {α : Type} {L : Lay α} {B : Nat} {w : World} {v : Value} {l : List α} (h : OwnL L B w v l) (k : Nat) (hk : v.ownBlock = some k) : ∃ cs fz, w.heap[k]? = some (.cells cs L.e fz) := by
  rcases h.2 with ⟨rfl, _⟩ | ⟨g, cap, cur, rfl, _, hg, _⟩
  · cases hk
  · simp only [Value.ownBlock, Option.some.injEq] at hk
    subst hk
    exact ⟨_, _, hg⟩
/-- A block of another kind is no row's own. -/
theorem OwnL.not_blk {α : Type} {L : Lay α} {B : Nat} {w : World} {v : Value} {l : List α} (h : OwnL L B w v l) {g : Nat} {t : TypeId} {cs : Array Value} (hb : Blk w g t cs) (ht : t ≠ L.e) : v.ownBlock ≠ some g := fun e => by
  obtain ⟨cs', fz, hh⟩ := h.kind g e
  unfold Blk at hb
  rw [hh] at hb
  injection hb with hb
  injection hb with _ h2
  exact ht h2.symm

/-- A text of these bytes. -/
def StrIs (l : List UInt8) (w : World) (e : Ending) (w' : World) : Prop := e = .returned (.string ⟨l.toArray⟩) ∧ Below w.heap.size w w'

end Go.Proofs.YtiigkacmahecaaaDoor
