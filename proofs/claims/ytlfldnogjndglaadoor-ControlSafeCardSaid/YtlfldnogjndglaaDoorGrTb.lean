/-
  Merged: TagA, TagB, TagC, TagD.
-/
import Derived.Test.YtlfldnogjndglaaDoorGrU
import Derived.Handy
namespace Go.Proofs.YtlfldnogjndglaaDoor
open Go.RowKit

abbrev Tag := ByteArray × Bool
def tagV (t : Tag) : Value := .agg #[.string t.1, .bool t.2]
def tagByte (b : UInt8) : Bool := decide (33 ≤ (b.toNat : Int) ∧ (b.toNat : Int) ≠ 34 ∧ (b.toNat : Int) ≤ 126)
def tagOk (s : ByteArray) : Bool := decide (1 ≤ s.size ∧ s.size ≤ 100) && s.data.toList.all tagByte
def weakB (a b : Tag) : Bool := tagOk a.1 && tagOk b.1 && (a.1.toList == b.1.toList)
def strongB (a b : Tag) : Bool := !a.2 && !b.2 && weakB a b

def BoolOk (b : Bool) (w : World) (e : Ending) (w' : World) : Prop := e = .returned (.bool b) ∧ Below w.heap.size w w'

theorem take_snocS (s : ByteArray) (k : Nat) (h : k < s.size) : s.data.toList.take (k + 1) = s.data.toList.take k ++ [s[k]] := by
  rw [List.take_succ_eq_append_getElem (by simpa using h)]; rfl
theorem all_step (p : UInt8 → Bool) (s : ByteArray) (k : Nat) (h : k < s.size) (ha : (s.data.toList.take k).all p = true) : (s.data.toList.take (k + 1)).all p = p s[k] := by
  rw [take_snocS s k h, List.all_append, ha]; simp
theorem all_whole (p : UInt8 → Bool) (s : ByteArray) (k : Nat) (h : s.size ≤ k) : (s.data.toList.take k).all p = s.data.toList.all p := by
  rw [List.take_of_length_le (by simpa using h)]
theorem all_no (p : UInt8 → Bool) (s : ByteArray) (k : Nat) (h : k < s.size) (hp : p s[k] = false) : s.data.toList.all p = false := by
  rw [List.all_eq_false]
  exact ⟨s[k], List.getElem_mem (l := s.data.toList) (n := k) (by simpa using h), by simp [hp]⟩

theorem cell_lt'' {w : World} {a : Addr} {v : Value} (h : w.cell? a = some v) : a.block < w.heap.size := by
  rcases Nat.lt_or_ge a.block w.heap.size with hlt | hge
  · exact hlt
  · simp [World.cell?, Array.getElem?_eq_none hge] at h
theorem cell_later'' {w w' : World} {a : Addr} {v : Value} (hb : Below w.heap.size w w') (h : w.cell? a = some v) : w'.cell? a = some v := by
  rw [hb.cell (cell_lt'' h)]; exact h
theorem chain2 {w w1 w2 : World} {o o' : Obj} (h1 : Below ((w.alloc o).alloc o').heap.size ((w.alloc o).alloc o') w1) (h2 : Below w1.heap.size w1 w2) : Below w.heap.size w w2 := by
  have z1 := h1.size
  simp only [World.size_alloc] at z1
  have a0 : Below w.heap.size w ((w.alloc o).alloc o') := ((Below.refl _ _).alloc (Nat.le_refl _) _).alloc (by simp) _
  exact (a0.trans (h1.mono (by simp; omega))).trans (h2.mono (by omega))
theorem chain1 {w w1 : World} {o o' : Obj} (h1 : Below ((w.alloc o).alloc o').heap.size ((w.alloc o).alloc o') w1) : Below w.heap.size w w1 := by
  have a0 : Below w.heap.size w ((w.alloc o).alloc o') := ((Below.refl _ _).alloc (Nat.le_refl _) _).alloc (by simp) _
  exact a0.trans (h1.mono (by simp; omega))
theorem two_cells {w w1 : World} {a b c d : Value} {T T' : TypeId} (h : Below ((w.alloc (.cells #[a, b] T)).alloc (.cells #[c, d] T')).heap.size ((w.alloc (.cells #[a, b] T)).alloc (.cells #[c, d] T')) w1) :
    w1.cell? ⟨w.heap.size, 0, none⟩ = some a ∧ w1.cell? ⟨w.heap.size, 1, none⟩ = some b ∧ w1.cell? ⟨w.heap.size + 1, 0, none⟩ = some c ∧ w1.cell? ⟨w.heap.size + 1, 1, none⟩ = some d := by
  refine ⟨?_, ?_, ?_, ?_⟩ <;> rw [h.cell (by simp; try omega)] <;> simp [go_sem]

end Go.Proofs.YtlfldnogjndglaaDoor
namespace Go.Proofs.YtlfldnogjndglaaDoor
open Go.RowKit

end Go.Proofs.YtlfldnogjndglaaDoor
namespace Go.Proofs.YtlfldnogjndglaaDoor
open Go.RowKit

end Go.Proofs.YtlfldnogjndglaaDoor
namespace Go.Proofs.YtlfldnogjndglaaDoor
open Go.RowKit

/-- A slice of tags that can be read, below block B. -/
def RdTags (w : World) (B : Nat) (v : Value) (ts : List Tag) : Prop :=
  ts.length ≤ 9223372036854775807 ∧ (∀ t ∈ ts, t.1.size ≤ 9223372036854775807) ∧ ∃ (A : Option Addr) (c : Nat), v = .slice A ts.length c ∧
    ∀ i (h : i < ts.length), ∃ b off, A = some ⟨b, off, none⟩ ∧ b < B ∧ w.cell? ⟨b, off + i * 2, none⟩ = some (.string ts[i].1) ∧ w.cell? ⟨b, off + i * 2 + 1, none⟩ = some (.bool ts[i].2)

theorem RdTags.below {w w' : World} {B : Nat} {v : Value} {ts : List Tag} (h : RdTags w B v ts) (hb : Below B w w') : RdTags w' B v ts := by
  obtain ⟨h0, h1, A, c, hv, hc⟩ := h
  refine ⟨h0, h1, A, c, hv, fun i hi => ?_⟩
  obtain ⟨b, off, e, hlt, c1, c2⟩ := hc i hi
  exact ⟨b, off, e, hlt, by rw [hb.cell hlt]; exact c1, by rw [hb.cell hlt]; exact c2⟩
theorem RdTags.mono {w : World} {B B' : Nat} {v : Value} {ts : List Tag} (h : RdTags w B v ts) (hB : B ≤ B') : RdTags w B' v ts := by
  obtain ⟨h0, h1, A, c, hv, hc⟩ := h
  refine ⟨h0, h1, A, c, hv, fun i hi => ?_⟩
  obtain ⟨b, off, e, hlt, c1, c2⟩ := hc i hi
  exact ⟨b, off, e, by omega, c1, c2⟩

def inB (ts : List Tag) (t : Tag) (strict : Bool) : Bool := ts.any fun x => if strict then strongB x t else weakB x t

end Go.Proofs.YtlfldnogjndglaaDoor
