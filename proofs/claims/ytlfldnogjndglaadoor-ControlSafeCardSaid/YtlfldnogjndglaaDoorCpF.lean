/-
  The age that a text is: both walks.
-/
import Derived.Test.YtlfldnogjndglaaDoorCpE
import Derived.Test.YtlfldnogjndglaaDoorRcpC
namespace Go.Proofs.YtlfldnogjndglaaDoor
open Go.RowKit
set_option linter.unusedVariables false
set_option linter.unusedSimpArgs false

/-- The age that a text is. -/
def ageV (l : Bs) : Int := numV (trimB l)
def AgeOk (n : Int) (w : World) (e : Ending) (w' : World) : Prop := e = .returned (.tuple #[.int .i64 (if n < 0 then 0 else n), .int .i64 (if n < 0 then 2 else 0)]) ∧ Below w.heap.size w w'
theorem retA {n : Int} {a b : Int} (h : a = if n < 0 then 0 else n) (g : b = if n < 0 then 2 else 0) : Ending.returned (.tuple #[.int .i64 a, .int .i64 b]) = .returned (.tuple #[.int .i64 (if n < 0 then 0 else n), .int .i64 (if n < 0 then 2 else 0)]) := by rw [h, g]

set_option maxRecDepth 100000 in
set_option maxHeartbeats 2000000 in
theorem cage_any (s : ByteArray) (w : World) (hs : s.size ≤ 1000000) : Calls Tryd.prog 8 #[.string s] w (AgeOk (ageV s.data.toList) w) := by
  go_enter Tryd.func8, Tryd.ntmps8
  go_wp2_with fail
  refine (trim_any s _ (by omega)).mono ?_
  rintro e w2 ⟨p, hp, rfl, hb2⟩
  have hps : p.size ≤ 9223372036854775807 := by have := trim_size s.data.toList; rw [← hp, lsize, lsize] at this; omega
  have hnb := numP_bd p.data.toList
  have hnv := numV_of p.data.toList
  rw [hp] at hnv
  have HP := hide hp
  clear hp
  go_wp2_with fail
  refine (cnumber_any p _ hps).mono ?_
  rintro e w' ⟨rfl, rfl⟩
  cases q : numQ p.data.toList
  · have HX := hide (show ageV s.data.toList = -1 by unfold ageV; rw [hnv, ← HP.out, q]; rfl)
    clear hnv
    go_wp2_with fail
    go_ret2
    exact ⟨retA (by rw [HX.out]; rfl) (by rw [HX.out]; rfl), hb2⟩
  · have HX := hide (show ageV s.data.toList = numP p.data.toList by unfold ageV; rw [hnv, ← HP.out, q]; rfl)
    clear hnv
    go_wp2_with fail
    go_ret2
    exact ⟨retA (by rw [HX.out, if_neg (by omega)]) (by rw [HX.out, if_neg (by omega)]), hb2⟩

end Go.Proofs.YtlfldnogjndglaaDoor
