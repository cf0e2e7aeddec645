/-
  Slices of structs that come in, opened cell by cell.
-/
import Derived.ProofKit
import Derived.Deep.Slices
import Derived.Lib.SmallJoins
import Derived.OpenShut
import Derived.SizedLaws
import Derived.Test.YtfcbmajogmojbaaDoorOwnL
namespace Go.Proofs.YtfcbmajogmojbaaDoor
open Go.ChangeShapes Go.WideShapes Go.RowKit Go.Deep
set_option linter.unusedVariables false
set_option linter.unusedSimpArgs false

section
variable {H : Type} {enc : TypeId × Value → H} {w : World} {fuel : Nat} {cs : List Value} {x : DataW H × List MemPlace}
theorem field_ofU {t : TypeId} {fs : Array Field} (ht : Tryd.prog.underlying t = some (.struct fs)) (h : DataW.trod enc Tryd.prog w 0 (fun _ => true) true fuel t cs = some x) (i : Nat) (f : Field) (hf : fs[i]? = some f) (k : Nat) (hk : Tryd.prog.cellsOf f.type = k) :
    ∃ n y, DataW.trod enc Tryd.prog w 0 (fun _ => true) true n f.type ((cs.drop f.offset).take k) = some y := by
  obtain ⟨xs, n, _, _, _, hlen, hg⟩ := DataW.trod_struct ht h
  have h1 := hg i f hf
  have hi : i < xs.length := by rw [hlen]; exact (Array.getElem?_eq_some_iff.1 hf).1
  rw [List.getElem?_eq_getElem hi, hk] at h1
  exact ⟨n, _, h1⟩
theorem cells_lenU {t : TypeId} {fs : Array Field} (ht : Tryd.prog.underlying t = some (.struct fs)) (h : DataW.trod enc Tryd.prog w 0 (fun _ => true) true fuel t cs = some x) (k : Nat) (hk : Tryd.prog.cellsOf t = k) : cs.length = k := by
  obtain ⟨xs, n, _, _, hl, _, _⟩ := DataW.trod_struct ht h
  rw [hl, hk]
theorem mLenU : maxLen ≤ 9223372036854775807 := by decide
theorem cellsI64U : Tryd.prog.cellsOf 2 = 1 := by kernel_rfl
theorem list_ofU {T : Type} {D : Nat → T → Prop} (n : Nat) (h : ∀ i, i < n → ∃ t, D i t) : ∃ l : List T, l.length = n ∧ ∀ i (hi : i < l.length), D i l[i] := by
  induction n with
  | zero => exact ⟨[], rfl, fun i hi => by simp at hi⟩
  | succ n ih =>
    obtain ⟨l, hl, hd⟩ := ih (fun i hi => h i (by omega))
    obtain ⟨t, ht⟩ := h n (by omega)
    refine ⟨l ++ [t], by simp [hl], fun i hi => ?_⟩
    by_cases hin : i < l.length
    · rw [List.getElem_append_left hin]; exact hd i hin
    · have : i = n := by simp [hl] at hi; omega
      subst this
      rw [List.getElem_append_right (by omega)]
      simpa [hl] using ht
theorem cellsSpanU : Tryd.prog.cellsOf 31 = 2 := by kernel_rfl
theorem open_spanU (h : DataW.trod enc Tryd.prog w 0 (fun _ => true) true fuel 31 cs = some x) : ∃ a b : Int, cs = [.int .i64 a, .int .i64 b] ∧ (Lit.int .i64 a).wf = true ∧ (Lit.int .i64 b).wf = true := by
  have hl := cells_lenU Tryd.underlying31 h 2 cellsSpanU
  obtain ⟨n0, y0, h0⟩ := field_ofU Tryd.underlying31 h 0 _ rfl 1 cellsI64U
  obtain ⟨n1, y1, h1⟩ := field_ofU Tryd.underlying31 h 1 _ rfl 1 cellsI64U
  match cs, hl with
  | [c0, c1], _ =>
    obtain ⟨a, e0, _, w0⟩ := DataW.trod_int Tryd.underlying2 h0
    obtain ⟨b, e1, _, w1⟩ := DataW.trod_int Tryd.underlying2 h1
    simp at e0 e1
    subst e0 e1
    exact ⟨a, b, rfl, w0, w1⟩
end
theorem add_two (a : Addr) (i n : Nat) (h : a.spot = none) : a.add (i * n) = ⟨a.block, a.off + i * n, none⟩ := by
  obtain ⟨b, o, sp⟩ := a
  simp only at h
  subst h
  by_cases hz : i * n = 0 <;> simp [Addr.add, hz]
set_option maxRecDepth 100000 in
/-- A slice of a struct of numbers that comes in: its elements lie one behind the other. -/
theorem open_listU {H : Type} {enc : TypeId × Value → H} {w : World} {base : Nat} {v : Value} {d : DataW H} {p : List MemPlace} {α : Type} (L : Lay α) {D : α → Prop} (hn : Tryd.prog.cellsOf L.e = L.n) (hv : Value.okWide Tryd.prog w .any base L.t v)
    (h : DataW.Trod enc Tryd.prog w 0 (fun _ => true) true L.t v d p)
    (ho : ∀ fuel cs x, DataW.trod enc Tryd.prog w 0 (fun _ => true) true fuel L.e cs = some x → ∃ t : α, cs = L.enc t ∧ D t) : ∃ ts : List α, RdL L w w.heap.size v ts ∧ ∀ t ∈ ts, D t := by
  obtain ⟨a0, l0, c0, rfl⟩ := okWide_slice L.ht hv
  obtain ⟨fuel, hf⟩ := h
  rcases open_slice L.ht (show DataW.trod enc Tryd.prog w 0 (fun _ => true) true fuel L.t [.slice a0 l0 c0] = _ from hf) with ⟨hcs, _⟩ | ⟨a, len, cap, m, n, D', Pl, hcs, _, hl, hm, hmm, hx, hi⟩
  · simp at hcs
    obtain ⟨rfl, rfl, rfl⟩ := hcs
    exact ⟨[], RdL.nil _ _ _ _ (by omega), by simp⟩
  · simp at hcs
    obtain ⟨rfl, rfl, rfl⟩ := hcs
    have hmc : m = c0 := by simpa using hmm
    have hM := mLenU
    obtain ⟨ts, hts, hc⟩ := list_ofU (T := α) (D := fun i t => D t ∧ ∀ j u, (L.enc t)[j]? = some u → w.cell? ((a.add (i * L.n)).add j) = some u) l0 (fun i hil => by
      obtain ⟨cs', hc', ht'⟩ := hi i (by omega)
      obtain ⟨t, rfl, hd⟩ := ho _ _ _ ht'
      rw [hn] at hc'
      obtain ⟨_, _, hat⟩ := World.cells?_some hc'
      refine ⟨t, hd, fun j u hu => ?_⟩
      have hj : j < (L.enc t).length := (List.getElem?_eq_some_iff.1 hu).1
      have := hat j (by rw [L.len] at hj; exact hj)
      rw [this]
      first | exact hu | simpa using hu)
    refine ⟨ts, ⟨by omega, some a, c0, by rw [hts], by omega, by omega, fun i hi' => ?_⟩, fun t ht => ?_⟩
    · have hsp : a.spot = none := by
        have hp := L.pos
        have h0 : 0 < ts.length := by omega
        obtain ⟨u, hu⟩ : ∃ u, (L.enc (ts[0]'h0))[0]? = some u := ⟨_, List.getElem?_eq_getElem (by rw [L.len]; exact hp)⟩
        have := World.cell?_spot ((hc 0 h0).2 0 u hu)
        rw [Nat.zero_mul] at this
        simpa [Addr.add] using this
      have e := add_two a i L.n hsp
      obtain ⟨b, o, sp⟩ := a
      simp only at hsp e
      subst hsp
      have hcell : ∀ j u, (L.enc (ts[i]'hi'))[j]? = some u → w.cell? ⟨b, o + i * L.n + j, none⟩ = some u := fun j u hu => by
        have := (hc i hi').2 j u hu
        rw [e] at this
        by_cases hz : j = 0
        · subst hz; simpa [Addr.add] using this
        · simpa [Addr.add, hz] using this
      refine ⟨b, o, rfl, ?_, hcell⟩
      obtain ⟨u, hu⟩ : ∃ u, (L.enc (ts[i]'hi'))[0]? = some u := ⟨_, List.getElem?_eq_getElem (by rw [L.len]; exact L.pos)⟩
      exact World.block_lt_of_cell? _ _ (hcell 0 u hu)
    · obtain ⟨i, hi', rfl⟩ := List.getElem_of_mem ht
      exact (hc i hi').1

end Go.Proofs.YtfcbmajogmojbaaDoor
