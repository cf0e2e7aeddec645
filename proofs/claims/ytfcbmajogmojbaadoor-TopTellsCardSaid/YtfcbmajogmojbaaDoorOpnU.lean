/-
  Puts that come in, opened cell by cell.
-/
import Derived.Test.YtfcbmajogmojbaaDoorOpnS
import Derived.Test.YtfcbmajogmojbaaDoorTelA
namespace Go.Proofs.YtfcbmajogmojbaaDoor
open Go.ChangeShapes Go.WideShapes Go.RowKit Go.Deep
set_option linter.unusedVariables false
set_option linter.unusedSimpArgs false

theorem cellsPutU : Tryd.prog.cellsOf 33 = 4 := by kernel_rfl
theorem cellsU8U : Tryd.prog.cellsOf 5 = 1 := by kernel_rfl
theorem cellsBoolU : Tryd.prog.cellsOf 4 = 1 := by kernel_rfl
section
variable {H : Type} {enc : TypeId × Value → H} {w : World} {fuel : Nat} {cs : List Value} {x : DataW H × List MemPlace}
set_option maxRecDepth 100000 in
theorem open_putU (h : DataW.trod enc Tryd.prog w 0 (fun _ => true) true fuel 33 cs = some x) : ∃ t : Pt, cs = LPt.enc t ∧ (0 ≤ t.2.1 ∧ t.2.1 ≤ 255) := by
  have hl := cells_lenU Tryd.underlying33 h 4 cellsPutU
  obtain ⟨n0, y0, h0⟩ := field_ofU Tryd.underlying33 h 0 _ rfl 2 cellsSpanU
  obtain ⟨n1, y1, h1⟩ := field_ofU Tryd.underlying33 h 1 _ rfl 1 cellsU8U
  obtain ⟨n2, y2, h2⟩ := field_ofU Tryd.underlying33 h 2 _ rfl 1 cellsBoolU
  match cs, hl with
  | [c0, c1, c2, c3], _ =>
    obtain ⟨a, b, e0, _, _⟩ := open_spanU h0
    obtain ⟨v, e1, _, w1⟩ := DataW.trod_int Tryd.underlying5 h1
    obtain ⟨d, e2, _⟩ := DataW.trod_bool Tryd.underlying4 h2
    simp at e0 e1 e2
    obtain ⟨rfl, rfl⟩ := e0
    subst e1 e2
    exact ⟨((a, b), (v, d)), rfl, bounds_u8 w1⟩
end
set_option maxRecDepth 100000 in
theorem open_puts {H : Type} {enc : TypeId × Value → H} {w : World} {base : Nat} {v : Value} {d : DataW H} {p : List MemPlace} (hv : Value.okWide Tryd.prog w .any base 22 v)
    (h : DataW.Trod enc Tryd.prog w 0 (fun _ => true) true 22 v d p) : ∃ ts : List Pt, RdL LPt w w.heap.size v ts ∧ ∀ t ∈ ts, 0 ≤ t.2.1 ∧ t.2.1 ≤ 255 :=
  open_listU LPt cellsPutU hv h (fun _ _ _ h => open_putU h)

end Go.Proofs.YtfcbmajogmojbaaDoor
