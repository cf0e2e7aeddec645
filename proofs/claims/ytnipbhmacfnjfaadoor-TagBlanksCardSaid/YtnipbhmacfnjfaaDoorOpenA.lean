/-
  What comes in, opened cell by cell: tags, conditions, requests, what is known of a version.
-/
import Derived.Test.YtnipbhmacfnjfaaDoorTagD
import Derived.ProofKit
import Derived.Deep.Slices
import Derived.Lib.SmallJoins
namespace Go.Proofs.YtnipbhmacfnjfaaDoor
open Go.ChangeShapes Go.WideShapes Go.RowKit Go.Deep

section
variable {H : Type} {enc : TypeId × Value → H} {w : World} {fuel : Nat} {cs : List Value} {x : DataW H × List MemPlace}

theorem field_of {t : TypeId} {fs : Array Field} (ht : Tryd.prog.underlying t = some (.struct fs)) (h : DataW.trod enc Tryd.prog w 0 (fun _ => true) true fuel t cs = some x) (i : Nat) (f : Field) (hf : fs[i]? = some f) (k : Nat) (hk : Tryd.prog.cellsOf f.type = k) :
    ∃ n y, DataW.trod enc Tryd.prog w 0 (fun _ => true) true n f.type ((cs.drop f.offset).take k) = some y := by
  obtain ⟨xs, n, _, _, _, hlen, hg⟩ := DataW.trod_struct ht h
  have h1 := hg i f hf
  have hi : i < xs.length := by rw [hlen]; exact (Array.getElem?_eq_some_iff.1 hf).1
  rw [List.getElem?_eq_getElem hi, hk] at h1
  exact ⟨n, _, h1⟩
theorem cells_len {t : TypeId} {fs : Array Field} (ht : Tryd.prog.underlying t = some (.struct fs)) (h : DataW.trod enc Tryd.prog w 0 (fun _ => true) true fuel t cs = some x) (k : Nat) (hk : Tryd.prog.cellsOf t = k) : cs.length = k := by
  obtain ⟨xs, n, _, _, hl, _, _⟩ := DataW.trod_struct ht h
  rw [hl, hk]

theorem cellsStr : Tryd.prog.cellsOf 9 = 1 := by kernel_rfl
theorem cellsBool : Tryd.prog.cellsOf 4 = 1 := by kernel_rfl
theorem cellsI64 : Tryd.prog.cellsOf 2 = 1 := by kernel_rfl
theorem cellsTag : Tryd.prog.cellsOf 23 = 2 := by kernel_rfl
theorem cellsTags : Tryd.prog.cellsOf 30 = 1 := by kernel_rfl
theorem mLen : maxLen ≤ 9223372036854775807 := by decide

theorem open_tag (h : DataW.trod enc Tryd.prog w 0 (fun _ => true) true fuel 23 cs = some x) : ∃ (s : ByteArray) (b : Bool), cs = [.string s, .bool b] ∧ s.size ≤ maxLen := by
  have hl := cells_len Tryd.underlying23 h 2 cellsTag
  obtain ⟨n0, y0, h0⟩ := field_of Tryd.underlying23 h 0 _ rfl 1 cellsStr
  obtain ⟨n1, y1, h1⟩ := field_of Tryd.underlying23 h 1 _ rfl 1 cellsBool
  match cs, hl with
  | [c0, c1], _ =>
    obtain ⟨s, e0, _, hs⟩ := DataW.trod_string Tryd.underlying9 h0
    obtain ⟨b, e1, _⟩ := DataW.trod_bool Tryd.underlying4 h1
    simp at e0 e1
    subst e0 e1
    exact ⟨s, b, rfl, hs⟩

theorem cell_at {w : World} {a : Addr} {v : Value} (h : w.cell? a = some v) : a = ⟨a.block, a.off, none⟩ := by
  obtain ⟨b, o, sp⟩ := a
  have : sp = none := by simpa using World.cell?_spot h
  subst this; rfl

theorem list_of {T : Type} {D : Nat → T → Prop} (n : Nat) (h : ∀ i, i < n → ∃ t, D i t) : ∃ l : List T, l.length = n ∧ ∀ i (hi : i < l.length), D i l[i] := by
  induction n with
  | zero => exact ⟨[], rfl, fun i hi => by simp at hi⟩
  | succ n ih =>
    obtain ⟨l, hl, hd⟩ := ih (fun i hi => h i (by omega))
    obtain ⟨t, ht⟩ := h n (by omega)
    refine ⟨l ++ [t], by simp [hl], fun i hi => ?_⟩
    by_cases hin : i < l.length
    · rw [List.getElem_append_left hin]; exact hd i hin
    · have : i = n := by simp [hl] at hi; omega
      subst this
      rw [List.getElem_append_right (by omega)]
      simpa [hl] using ht

theorem open_tags (h : DataW.trod enc Tryd.prog w 0 (fun _ => true) true fuel 30 cs = some x) : ∃ (v : Value) (ts : List Tag), cs = [v] ∧ RdTags w w.heap.size v ts := by
  rcases open_slice Tryd.underlying30 h with ⟨hcs, _⟩ | ⟨a, len, cap, m, n, D, Pl, hcs, _, hl, hm, hmm, _, hi⟩
  · exact ⟨_, [], hcs, by simp, by simp, none, 0, rfl, fun i hi => by simp at hi⟩
  · have hmc : m = cap := by simpa using hmm
    have hlm : len ≤ maxLen := by omega
    have hM := mLen
    obtain ⟨ts, hts, hc⟩ := list_of (T := Tag) (D := fun i t => t.1.size ≤ maxLen ∧ w.cell? (a.add (i * 2)) = some (.string t.1) ∧ w.cell? ((a.add (i * 2)).add 1) = some (.bool t.2)) len (fun i hil => by
      obtain ⟨cs', hc', ht'⟩ := hi i (by omega)
      rw [cellsTag] at hc'
      obtain ⟨s, b, rfl, hs⟩ := open_tag ht'
      obtain ⟨_, _, hat⟩ := World.cells?_some hc'
      exact ⟨(s, b), hs, by have := hat 0 (by simp); simpa [Addr.add] using this, by have := hat 1 (by simp); simpa using this⟩)
    refine ⟨_, ts, hcs, by omega, fun t ht => ?_, some a, cap, by rw [hts], fun i hil => ?_⟩
    · obtain ⟨i, hi', rfl⟩ := List.getElem_of_mem ht
      exact Nat.le_trans (hc i hi').1 hM
    · obtain ⟨_, c0, c1⟩ := hc i hil
      have e := cell_at c1
      obtain ⟨b, o, sp⟩ := a
      have hsp : sp = none := by
        have h00 := (hc 0 (by omega)).2.1
        simpa [Addr.add] using World.cell?_spot h00
      subst hsp
      have hlt := cell_lt'' c0
      simp only [add_plain] at c0 c1 hlt
      exact ⟨b, o, rfl, by simpa using hlt, c0, c1⟩

end
end Go.Proofs.YtnipbhmacfnjfaaDoor
