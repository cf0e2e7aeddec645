/-
  Spans and bytes that come in, opened cell by cell.
-/
import Derived.Test.YtfcbmajogmojbaaDoorOpnS
import Derived.Test.YtfcbmajogmojbaaDoorPlI
namespace Go.Proofs.YtfcbmajogmojbaaDoor
open Go.ChangeShapes Go.WideShapes Go.RowKit Go.Deep
set_option linter.unusedVariables false
set_option linter.unusedSimpArgs false

theorem cellsU8P : Tryd.prog.cellsOf 5 = 1 := by kernel_rfl
section
variable {H : Type} {enc : TypeId × Value → H} {w : World} {fuel : Nat} {cs : List Value} {x : DataW H × List MemPlace}
set_option maxRecDepth 100000 in
theorem open_spanP (h : DataW.trod enc Tryd.prog w 0 (fun _ => true) true fuel 31 cs = some x) : ∃ t : Sp, cs = LSp.enc t ∧ True := by
  obtain ⟨a, b, rfl, _, _⟩ := open_spanU h
  exact ⟨(a, b), rfl, trivial⟩
set_option maxRecDepth 100000 in
theorem open_byteP (h : DataW.trod enc Tryd.prog w 0 (fun _ => true) true fuel 5 cs = some x) : ∃ t : Int, cs = LU8.enc t ∧ (0 ≤ t ∧ t ≤ 255) := by
  obtain ⟨v, e1, _, w1⟩ := DataW.trod_int Tryd.underlying5 h
  subst e1
  exact ⟨v, rfl, bounds_u8 w1⟩
end
set_option maxRecDepth 100000 in
theorem open_spansP {H : Type} {enc : TypeId × Value → H} {w : World} {base : Nat} {v : Value} {d : DataW H} {p : List MemPlace} (hv : Value.okWide Tryd.prog w .any base 26 v)
    (h : DataW.Trod enc Tryd.prog w 0 (fun _ => true) true 26 v d p) : ∃ ts : List Sp, RdL LSp w w.heap.size v ts := by
  obtain ⟨ts, h1, _⟩ := open_listU (D := fun _ => True) LSp cellsSpanU hv h (fun _ _ _ h => open_spanP h)
  exact ⟨ts, h1⟩
set_option maxRecDepth 100000 in
theorem open_bytesP {H : Type} {enc : TypeId × Value → H} {w : World} {base : Nat} {v : Value} {d : DataW H} {p : List MemPlace} (hv : Value.okWide Tryd.prog w .any base 45 v)
    (h : DataW.Trod enc Tryd.prog w 0 (fun _ => true) true 45 v d p) : ∃ ts : List Int, RdL LU8 w w.heap.size v ts ∧ ∀ t ∈ ts, 0 ≤ t ∧ t ≤ 255 :=
  open_listU LU8 cellsU8P hv h (fun _ _ _ h => open_byteP h)

end Go.Proofs.YtfcbmajogmojbaaDoor
