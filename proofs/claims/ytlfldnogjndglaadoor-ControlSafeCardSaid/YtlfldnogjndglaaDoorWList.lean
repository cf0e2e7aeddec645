/-
  Slices of strings as a walk wants them; the library's contracts (a number's text, a joined list) in those words.
-/
import Derived.Test.YtlfldnogjndglaaDoorOwnL
import Derived.Test.YtlfldnogjndglaaDoorShA
import Derived.Lib.ItoaLen
import Derived.Lib.ItoaMem
import Derived.Lib.AppendIntMem
import Derived.Lib.Join
namespace Go.Proofs.YtlfldnogjndglaaDoor
open Go.RowKit
set_option linter.unusedVariables false
set_option linter.unusedSimpArgs false

/-- A slice of strings. -/
def LW : Lay (List UInt8) where
  t := 22
  e := 9
  n := 1
  bytes := 16
  enc s := [.string ⟨s.toArray⟩]
  len _ := rfl
  one _ u hu := by simp at hu; subst hu; rfl
  pos := by decide
  z := .string ⟨#[]⟩
  ht := Tryd.underlying22
  info := by kernel_rfl
  zs := rfl

/-- The powers' table is laid. -/
def Tab (w : World) : Prop := Lib.TabIs Tryd.prog w "internal/strconv.uint64pow10" .u64 Lib.pow10Tab
theorem Tab.below {w w' : World} (h : Tab w) (hb : Below w.heap.size w w') : Tab w' := by
  unfold Tab Lib.TabIs World.var? at *
  cases hg : Tryd.prog.globalNamed "internal/strconv.uint64pow10" with
  | none => simp [hg] at h
  | some g =>
    simp only [hg, Option.bind_some] at h ⊢
    have hlt : g < w.heap.size := by
      rcases Nat.lt_or_ge g w.heap.size with h' | h'
      · exact h'
      · rw [Array.getElem?_eq_none h'] at h; simp at h
    rw [hb.block g hlt]
    exact h

/-- Blocks of other kinds than rows of e, but for the block bx, are as they were. -/
structure KeptL (e : TypeId) (bx : Nat) (w w' : World) : Prop where
  far : ∀ h t cs, h ≠ bx → t ≠ e → Blk w h t cs → Blk w' h t cs
  size : w.heap.size ≤ w'.heap.size
theorem KeptL.refl (e : TypeId) (bx : Nat) (w : World) : KeptL e bx w w := ⟨fun _ _ _ _ _ h => h, Nat.le_refl _⟩
theorem KeptL.trans {e : TypeId} {bx : Nat} {a b c : World} (h : KeptL e bx a b) (k : KeptL e bx b c) : KeptL e bx a c := ⟨fun g t cs x y z => k.far g t cs x y (h.far g t cs x y z), Nat.le_trans h.size k.size⟩
theorem KeptL.below {e : TypeId} {bx C : Nat} {a b : World} (hb : Below C a b) (hC : a.heap.size ≤ C) : KeptL e bx a b := ⟨fun g t cs _ _ z => z.below hb (Nat.lt_of_lt_of_le z.lt hC), hb.size⟩
theorem KeptL.grown {e : TypeId} {bx : Nat} {a b c : World} {row : Option Nat} (h : KeptL e bx a b) (hg : b.grownBy c row) (hr : ∀ k, row = some k → ∃ cs fz, b.heap[k]? = some (.cells cs e fz)) : KeptL e bx a c :=
  by
  obtain ⟨_, _, _, hs, hbk⟩ := hg
  refine ⟨fun g t cs x y z => ?_, Nat.le_trans h.size hs⟩
  · have hz := h.far g t cs x y z
    by_cases hgr : some g = row
    · obtain ⟨cs', fz, hh⟩ := hr g hgr.symm
      unfold Blk at hz
      rw [hh] at hz
      injection hz with hz
      injection hz with _ ht
      exact absurd ht.symm y
    · have := hbk g hz.lt hgr
      unfold Blk at hz ⊢
      rw [this]; exact hz
theorem KeptL.set_ {e : TypeId} {bx i : Nat} {a b : World} (h : KeptL e bx a b) (u : Value) : KeptL e bx a (b.setCell ⟨bx, i, none⟩ u) := ⟨fun j t cs x y z => (h.far j t cs x y z).far (by show j ≠ bx; exact x) u, by simpa [World.setCell] using h.size⟩
theorem KeptL.alloc {e : TypeId} {bx : Nat} {a b : World} (h : KeptL e bx a b) (o : Obj) : KeptL e bx a (b.alloc o) := ⟨fun j t cs x y z => (h.far j t cs x y z).alloc o, Nat.le_trans h.size (by simp)⟩
theorem KeptL.drew {e : TypeId} {bx : Nat} {a b : World} (h : KeptL e bx a b) : KeptL e bx a b.drew := ⟨fun j t cs x y z => (h.far j t cs x y z).drew, h.size⟩
theorem KeptL.drewN {e : TypeId} {bx : Nat} {a b : World} (h : KeptL e bx a b) (n : Nat) : KeptL e bx a (b.drewN n) := ⟨fun j t cs x y z => (h.far j t cs x y z).drewN n, h.size⟩
/-- The row's own block is of its kind. -/
theorem OwnL.kind {α : Type} {L : Lay α} {B : Nat} {w : World} {v : Value} {l : List α} (h : OwnL L B w v l) (k : Nat) (hk : v.ownBlock = some k) : ∃ cs fz, w.heap[k]? = some (.cells cs L.e fz) := by
  rcases h.2 with ⟨rfl, _⟩ | ⟨g, cap, cur, rfl, _, hg, _⟩
  · cases hk
  · simp only [Value.ownBlock, Option.some.injEq] at hk
    subst hk
    exact ⟨_, _, hg⟩
/-- A block of another kind is no row's own. -/
theorem OwnL.not_blk {α : Type} {L : Lay α} {B : Nat} {w : World} {v : Value} {l : List α} (h : OwnL L B w v l) {g : Nat} {t : TypeId} {cs : Array Value} (hb : Blk w g t cs) (ht : t ≠ L.e) : v.ownBlock ≠ some g := fun e => by
  obtain ⟨cs', fz, hh⟩ := h.kind g e
  unfold Blk at hb
  rw [hh] at hb
  injection hb with hb
  injection hb with _ h2
  exact ht h2.symm

/-- A text of these bytes. -/
def StrIs (l : List UInt8) (w : World) (e : Ending) (w' : World) : Prop := e = .returned (.string ⟨l.toArray⟩) ∧ Below w.heap.size w w'

set_option maxRecDepth 100000 in
theorem fmt_any (n : Int) (w : World) (h0 : -9223372036854775808 ≤ n) (h1 : n ≤ 9223372036854775807) (hT : Tab w) : Calls Tryd.prog 16 #[.int .i64 n, .int .i64 10] w (StrIs (Lib.itoa n) w) := by
  have HT := hide hT
  clear hT
  go_enter Tryd.func16, Tryd.ntmps16
  go_wp2_with fail
  refine (Any.internal_strconv_FormatInt_10 laysM246 n h0 h1 _ HT.out).mono ?_
  rintro e w1 ⟨rfl, k, os, hw⟩
  have hb : Below w.heap.size w w1 := hw ▸ Lib.below_grow _ w (Nat.le_refl _) k os
  clear hw
  go_wp2
  go_ret
  exact ⟨rfl, hb⟩

theorem join_any (v : Value) (l : List (List UInt8)) (sep : ByteArray) (w : World) (hr : RdL LW w w.heap.size v l) (hn : l.length ≤ 1000000) (hl : (Lib.join l sep.data.toList).length ≤ 140737488355328) :
    Calls Tryd.prog 17 #[v, .string sep] w (StrIs (Lib.join l sep.data.toList) w) := by
  obtain ⟨A, c, rfl, hc0, hc1⟩ := hr.form
  have hmap : (l.map fun x => (⟨x.toArray⟩ : ByteArray)).map (·.data.toList) = l := by rw [List.map_map]; conv => rhs; rw [← List.map_id l]
                                                                                       rfl
  cases l with
  | nil => exact (Any.strings_Join_none lays156 Builder_Extra_156 A c sep w).mono fun e w' ⟨he, hw⟩ => ⟨by rw [he]; rfl, hw ▸ Below.refl _ _⟩
  | cons x r =>
    obtain ⟨b, off, rfl, hb, _⟩ := hr.at_ 0 (by simp)
    have := Any.strings_Join lays156 Builder_Extra_156 b off c ((x :: r).map fun x => (⟨x.toArray⟩ : ByteArray)) sep w
      (fun j y hj => by
        rw [List.getElem?_map] at hj
        obtain ⟨z, hz, rfl⟩ := Option.map_eq_some_iff.1 hj
        obtain ⟨hlt, hz'⟩ := List.getElem?_eq_some_iff.1 hz
        obtain ⟨b', off', he, _, hcell⟩ := hr.at_ j hlt
        simp only [Option.some.injEq, Addr.mk.injEq] at he
        obtain ⟨rfl, rfl, _⟩ := he
        have := hcell 0 (.string ⟨z.toArray⟩) (by rw [hz']; rfl)
        simpa [LW] using this) hb (by simp at hn ⊢; omega) (by simpa using hc0) (by rw [hmap]; exact hl)
    rw [hmap] at this
    rw [show ((x :: r).map fun x => (⟨x.toArray⟩ : ByteArray)).length = (x :: r).length by simp] at this
    exact this
end Go.Proofs.YtlfldnogjndglaaDoor
