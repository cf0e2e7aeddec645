/-
  No conditions may be: the program's Right of None.
-/
import Derived.Test.YtfbefjpajmigmaaCondE
namespace Go.Proofs.Ytfbefjpajmigmaa
open Go.RowKit

def TextNeg (w : World) (e : Ending) (w' : World) : Prop := e = .returned (.tuple #[.string ⟨#[]⟩, .int .i64 1]) ∧ Below w.heap.size w w'

set_option maxHeartbeats 400000 in
theorem text_neg (w : World) : Calls Try.prog 26 #[.int .i64 (-1)] w (TextNeg w) := by
  go_enter Try.func26, Try.ntmps26
  go_wp2
  go_ret2
  exact ⟨rfl, Below.refl _ _⟩

set_option maxHeartbeats 400000 in
theorem since_neg (w : World) : Calls Try.prog 49 #[.int .i64 (-1)] w (BoolOk true w) := by
  go_enter Try.func49, Try.ntmps49
  go_wp2_with fail
  refine (text_neg _).mono ?_
  rintro e w1 ⟨rfl, hb1⟩
  go_wp2
  go_ret
  exact ⟨rfl, hb1⟩

set_option maxHeartbeats 400000 in
theorem list_nil (w : World) : Calls Try.prog 48 #[.slice none 0 0, .bool false] w (BoolOk true w) := by
  go_enter Try.func48, Try.ntmps48
  go_wp2
  go_loop [20] (fun i => i = .int .i64 0) (fun i => 0 - (intOf i).toNat)
  case atStart => rfl
  case round =>
    obtain rfl := hrel
    go_wp2
    go_ret
    exact ⟨rfl, Below.refl _ _⟩

set_option maxHeartbeats 1000000 in
theorem right_none (w : World) : Calls Try.prog 32 #[.agg #[.slice none 0 0, .slice none 0 0, .bool false, .bool false, .int .i64 (-1), .int .i64 (-1), .string ⟨#[]⟩, .bool false]] w (BoolOk true w) := by
  go_enter Try.func32, Try.ntmps32
  go_wp2_with fail
  refine (list_nil _).mono ?_
  rintro e w1 ⟨rfl, hb1⟩
  have hB1 : Below w.heap.size w w1 := ((Below.refl _ _).alloc (Nat.le_refl _) _).trans (hb1.mono (by simp))
  have A1 : Blk w1 w.heap.size 27 #[.slice none 0 0, .slice none 0 0, .bool false, .bool false, .int .i64 (-1), .int .i64 (-1), .string ⟨#[]⟩, .bool false] := (Blk.new _ _ _).below hb1 (by simp)
  have a1 := A1.cell
  go_wp2_with fail
  refine (list_nil _).mono ?_
  rintro e w2 ⟨rfl, hb2⟩
  have hB2 := hB1.trans (hb2.mono hB1.size)
  have A2 := A1.below hb2 A1.lt
  clear a1 hb1 hb2 A1
  have a1 := A2.cell
  go_wp2_with fail
  refine (since_neg _).mono ?_
  rintro e w3 ⟨rfl, hb3⟩
  have hB3 := hB2.trans (hb3.mono hB2.size)
  have A3 := A2.below hb3 A2.lt
  clear a1 hb3 A2
  have a1 := A3.cell
  go_wp2_with fail
  refine (since_neg _).mono ?_
  rintro e w4 ⟨rfl, hb4⟩
  have hB4 := hB3.trans (hb4.mono hB3.size)
  have A4 := A3.below hb4 A3.lt
  clear a1 hb4 A3
  have a1 := A4.cell
  go_wp2
  go_ret
  exact ⟨rfl, hB4⟩
/-- Conditions are laid into a request. -/
theorem lay_cond {w : World} {g h B : Nat} {t u : TypeId} {ds : Array Value} {x0 x1 x2 x3 x4 x5 x6 x7 x8 x9 x10 y3 y4 y5 y6 y7 y8 y9 y10 : Value} {w0 : World} (H : Blk w g t #[x0, x1, x2, x3, x4, x5, x6, x7, x8, x9, x10]) (hd : Blk w h u ds) (hn : h ≠ g) (hb : Below B w0 w) (hB : B ≤ g) :
    ∃ W : World, W = (((((((w.setCell ⟨g, 3, none⟩ y3).setCell ⟨g, 4, none⟩ y4).setCell ⟨g, 5, none⟩ y5).setCell ⟨g, 6, none⟩ y6).setCell ⟨g, 7, none⟩ y7).setCell ⟨g, 8, none⟩ y8).setCell ⟨g, 9, none⟩ y9).setCell ⟨g, 10, none⟩ y10 ∧
      Blk W g t #[x0, x1, x2, y3, y4, y5, y6, y7, y8, y9, y10] ∧ Blk W h u ds ∧ Below B w0 W := by
  refine ⟨_, rfl, ?_, ?_, ?_⟩
  · have h3 := H.set_ 3 y3
    rw [show (#[x0, x1, x2, x3, x4, x5, x6, x7, x8, x9, x10] : Array Value).setIfInBounds 3 y3 = #[x0, x1, x2, y3, x4, x5, x6, x7, x8, x9, x10] from rfl] at h3
    have h4 := h3.set_ 4 y4
    rw [show (#[x0, x1, x2, y3, x4, x5, x6, x7, x8, x9, x10] : Array Value).setIfInBounds 4 y4 = #[x0, x1, x2, y3, y4, x5, x6, x7, x8, x9, x10] from rfl] at h4
    have h5 := h4.set_ 5 y5
    rw [show (#[x0, x1, x2, y3, y4, x5, x6, x7, x8, x9, x10] : Array Value).setIfInBounds 5 y5 = #[x0, x1, x2, y3, y4, y5, x6, x7, x8, x9, x10] from rfl] at h5
    have h6 := h5.set_ 6 y6
    rw [show (#[x0, x1, x2, y3, y4, y5, x6, x7, x8, x9, x10] : Array Value).setIfInBounds 6 y6 = #[x0, x1, x2, y3, y4, y5, y6, x7, x8, x9, x10] from rfl] at h6
    have h7 := h6.set_ 7 y7
    rw [show (#[x0, x1, x2, y3, y4, y5, y6, x7, x8, x9, x10] : Array Value).setIfInBounds 7 y7 = #[x0, x1, x2, y3, y4, y5, y6, y7, x8, x9, x10] from rfl] at h7
    have h8 := h7.set_ 8 y8
    rw [show (#[x0, x1, x2, y3, y4, y5, y6, y7, x8, x9, x10] : Array Value).setIfInBounds 8 y8 = #[x0, x1, x2, y3, y4, y5, y6, y7, y8, x9, x10] from rfl] at h8
    have h9 := h8.set_ 9 y9
    rw [show (#[x0, x1, x2, y3, y4, y5, y6, y7, y8, x9, x10] : Array Value).setIfInBounds 9 y9 = #[x0, x1, x2, y3, y4, y5, y6, y7, y8, y9, x10] from rfl] at h9
    have h10 := h9.set_ 10 y10
    rw [show (#[x0, x1, x2, y3, y4, y5, y6, y7, y8, y9, x10] : Array Value).setIfInBounds 10 y10 = #[x0, x1, x2, y3, y4, y5, y6, y7, y8, y9, y10] from rfl] at h10
    exact h10
  · have hf : ∀ i, h ≠ (⟨g, i, none⟩ : Addr).block := fun i => hn
    exact (((((((hd.far (hf 3) y3).far (hf 4) y4).far (hf 5) y5).far (hf 6) y6).far (hf 7) y7).far (hf 8) y8).far (hf 9) y9).far (hf 10) y10
  · exact (((((((below_set (i := 3) hb hB y3) |> fun h => below_set (i := 4) h hB y4) |> fun h => below_set (i := 5) h hB y5) |> fun h => below_set (i := 6) h hB y6) |> fun h => below_set (i := 7) h hB y7) |> fun h => below_set (i := 8) h hB y8) |> fun h => below_set (i := 9) h hB y9) |> fun h => below_set (i := 10) h hB y10
end Go.Proofs.Ytfbefjpajmigmaa
