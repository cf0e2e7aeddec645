/-
  A text's small letters: the reference's walk.
-/
import Derived.Test.YtlfldnogjndglaaDoorRcpA
namespace Go.Proofs.YtlfldnogjndglaaDoor
open Go.RowKit
set_option linter.unusedVariables false
set_option linter.unusedSimpArgs false

theorem OwnB.made (w : World) (cap B : Nat) (hb : B ≤ w.heap.size) (hm : cap ≤ maxLen) (cur : Array Value) (hs : cur.size = cap) : OwnB B (w.alloc (.cells cur 5)) (.slice (some ⟨w.heap.size, 0, none⟩) 0 cap) [] := by
  unfold OwnB
  have hg : (w.alloc (.cells cur 5)).heap[w.heap.size]? = some (.cells cur 5 (0, 0)) := heap_alloc_new w _
  exact ⟨by simp [Lib.byteCells], .inr ⟨w.heap.size, cap, cur, rfl, hb, hg, Nat.zero_le _, hm, by simpa using hs, by simp [Lib.byteCells]⟩⟩
theorem low_snoc (s : ByteArray) (k : Nat) (h : k < s.size) : (s.data.toList.take (k + 1)).map lowB = (s.data.toList.take k).map lowB ++ [lowB s[k]] := by rw [take_snocS s k h, List.map_append]; rfl

end Go.Proofs.YtlfldnogjndglaaDoor
