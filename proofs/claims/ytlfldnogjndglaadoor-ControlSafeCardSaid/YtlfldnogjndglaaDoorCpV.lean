/-
  A text cut at its first '='.
-/
import Derived.Test.YtlfldnogjndglaaDoorCpO
import Derived.Test.YtlfldnogjndglaaDoorGrU
import Derived.Test.YtlfldnogjndglaaDoorShA
import Derived.Shelf.Vars
namespace Go.Proofs.YtlfldnogjndglaaDoor
open Go.RowKit
set_option linter.unusedVariables false
set_option linter.unusedSimpArgs false

/-- The cell of the library's bound on a search's length holds some number, below block B. -/
def MaxI (B : Nat) (w : World) : Prop := 1 < B ∧ ∃ m : Int, w.cell? ⟨1, 0, none⟩ = some (.int .i64 m)
theorem MaxI.below {B : Nat} {w w' : World} (h : MaxI B w) (hb : Below B w w') : MaxI B w' := by
  obtain ⟨h0, m, hm⟩ := h
  exact ⟨h0, m, by rw [hb.cell h0]; exact hm⟩
theorem MaxI.mono {B C : Nat} {w : World} (h : MaxI B w) (hB : B ≤ C) : MaxI C w := ⟨Nat.lt_of_lt_of_le h.1 hB, h.2⟩
def CutOk (s : Bs) (w : World) (e : Ending) (w' : World) : Prop := ∃ (a b : ByteArray) (f : Bool), a.data.toList = (cutEq s).1 ∧ b.data.toList = (cutEq s).2 ∧ e = .returned (.tuple #[.string a, .string b, .bool f]) ∧ Below w.heap.size w w'
theorem cut_any (s : ByteArray) (w : World) {B : Nat} (hM : MaxI B w) (hs : s.size < 4294967281) : Calls Tryd.prog 18 #[.string s, .string ⟨#[61]⟩] w (CutOk s.data.toList w) := by
  obtain ⟨_, m, hm⟩ := hM
  refine (Any.strings_Cut lays145 s ⟨#[61]⟩ m w hs hm).mono ?_
  rintro e w' ⟨rfl, n, rfl⟩
  obtain ⟨h1, h2⟩ := cut_eq s.data.toList
  exact ⟨_, _, _, h1, h2, rfl, below_drewN (Below.refl _ _) n⟩
theorem MaxI.of_shaped {w : World} (h : w.ShapedOpen Tryd.prog) (hz : 1 < w.heap.size) : MaxI w.heap.size w :=
  ⟨hz, cell_of_shapedOpen_int (zero := #[.int .i64 0]) (t := 3) h (of_decide_eq_true (by kernel_rfl)) (by kernel_rfl) rfl (by kernel_rfl) (by kernel_rfl) Tryd.underlying3⟩

end Go.Proofs.YtlfldnogjndglaaDoor
