/-
  A slice of numbers, opened cell by cell.
-/
import Derived.Test.YtdbocpgkedgpcaaOpenB
namespace Go.Proofs.Ytdbocpgkedgpcaa
open Go.ChangeShapes Go.WideShapes Go.RowKit Go.Deep
set_option linter.unusedVariables false
set_option linter.unusedSimpArgs false
/-- A slice of numbers that can be read, below block B. -/
def RdI64s (w : World) (B : Nat) (v : Value) (ns : List Int) : Prop :=
  ns.length ≤ 9223372036854775807 ∧ (∀ n ∈ ns, -9223372036854775808 ≤ n ∧ n ≤ 9223372036854775807) ∧ ∃ (A : Option Addr) (c : Nat), v = .slice A ns.length c ∧
    ∀ i (h : i < ns.length), ∃ b off, A = some ⟨b, off, none⟩ ∧ b < B ∧ w.cell? ⟨b, off + i, none⟩ = some (.int .i64 ns[i])
theorem RdI64s.below {w w' : World} {B : Nat} {v : Value} {ns : List Int} (h : RdI64s w B v ns) (hb : Below B w w') : RdI64s w' B v ns := by
  obtain ⟨h0, h1, A, c, hv, hc⟩ := h
  refine ⟨h0, h1, A, c, hv, fun i hi => ?_⟩
  obtain ⟨b, off, e, hlt, c1⟩ := hc i hi
  exact ⟨b, off, e, hlt, by rw [hb.cell hlt]; exact c1⟩
theorem open_i64s {H : Type} {enc : TypeId × Value → H} {w : World} {base : Nat} {v : Value} {d : DataW H} {p : List MemPlace} (hv : Value.okWide Try.prog w .any base 63 v)
    (h : DataW.Trod enc Try.prog w 0 (fun _ => true) true 63 v d p) : ∃ ns : List Int, RdI64s w w.heap.size v ns := by
  obtain ⟨a0, l0, c0, rfl⟩ := okWide_slice Try.underlying63 hv
  obtain ⟨fuel, hf⟩ := h
  rcases open_slice1 Try.underlying63 cellsI64 (show DataW.trod enc Try.prog w 0 (fun _ => true) true fuel 63 [.slice a0 l0 c0] = _ from hf) with ⟨hcs, _⟩ | ⟨a, len, cap, m, n, V, D, Pl, hcs, _, hl, hm, hmm, _, hi⟩
  · simp at hcs
    obtain ⟨rfl, rfl, rfl⟩ := hcs
    exact ⟨[], by simp, by simp, none, 0, rfl, fun i h => by simp at h⟩
  · simp at hcs
    obtain ⟨rfl, rfl, rfl⟩ := hcs
    have hmc : m = c0 := by simpa using hmm
    have hM := mLen
    obtain ⟨ns, hts, hc⟩ := list_of (T := Int) (D := fun i s => (-9223372036854775808 ≤ s ∧ s ≤ 9223372036854775807) ∧ w.cell? (a.add i) = some (.int .i64 s)) l0 (fun i hil => by
      obtain ⟨hc', ht'⟩ := hi i (by omega)
      obtain ⟨s, e0, _, wf⟩ := DataW.trod_int Try.underlying2 ht'
      simp at e0
      simp only [Lit.wf, Bool.and_eq_true, decide_eq_true_eq] at wf
      have k2 : IntKind.i64.min = -9223372036854775808 := by decide
      have k3 : IntKind.i64.max = 9223372036854775807 := by decide
      rw [k2, k3] at wf
      exact ⟨s, wf, by rw [hc', e0]⟩)
    refine ⟨ns, by omega, fun t ht => ?_, some a, c0, by rw [hts], fun i hil => ?_⟩
    · obtain ⟨i, hi', rfl⟩ := List.getElem_of_mem ht
      exact (hc i hi').1
    · have x0 := (hc i hil).2
      obtain ⟨b, o, sp⟩ := a
      have hsp : sp = none := by
        have h00 := (hc 0 (by omega)).2
        simpa [Addr.add] using World.cell?_spot h00
      subst hsp
      have hlt := cell_lt'' x0
      simp only [add_plain] at x0 hlt
      exact ⟨b, o, rfl, by simpa using hlt, x0⟩
end Go.Proofs.Ytdbocpgkedgpcaa
