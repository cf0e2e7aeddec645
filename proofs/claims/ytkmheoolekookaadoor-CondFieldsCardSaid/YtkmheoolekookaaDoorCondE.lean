/-
  The examples of the conditions' statements hold.
-/
import Derived.Test.YtkmheoolekookaaDoorCondD
import Derived.ChangeAlike
import Derived.BigRegion
namespace Go.Proofs.YtkmheoolekookaaDoor
open Go.RowKit

def noneV : Value := .agg #[.slice none 0 0, .slice none 0 0, .bool false, .bool false, .int .i64 (-1), .int .i64 (-1), .string ⟨#[]⟩, .bool false]
def NoneOk (w : World) (e : Ending) (w' : World) : Prop := e = .returned (.agg #[.slice none 0 0, .slice none 0 0, .bool false, .bool false, .int .i64 (-1), .int .i64 (-1), .string ⟨#[]⟩, .bool false]) ∧ Below w.heap.size w w'

set_option maxHeartbeats 400000 in
theorem cnone_any (w : World) : Calls Tryd.prog 17 #[] w (NoneOk w) := by
  go_enter Tryd.func17, Tryd.ntmps17
  go_wp2
  exact bodyPost_ret (v := noneV) (by simp [results, Tryd.results17, go_sem, noneV]) rfl ⟨rfl, (Below.refl _ _).alloc (Nat.le_refl _) _⟩

theorem RdTags.nil (w : World) (B : Nat) : RdTags w B (.slice none 0 0) [] := ⟨by simp, by simp, none, 0, rfl, fun i h => by simp at h⟩
theorem RdTags.one {w : World} {B g : Nat} {s : ByteArray} {b : Bool} (hs : s.size ≤ 9223372036854775807) (hg : g < B) (h0 : w.cell? ⟨g, 0, none⟩ = some (.string s)) (h1 : w.cell? ⟨g, 1, none⟩ = some (.bool b)) : RdTags w B (.slice (some ⟨g, 0, none⟩) 1 1) [(s, b)] :=
  ⟨by simp, by simpa using hs, some ⟨g, 0, none⟩, 1, rfl, fun i h => by
    obtain rfl : i = 0 := by simpa using h
    exact ⟨g, 0, rfl, hg, by simpa using h0, by simpa using h1⟩⟩

def TrueOk' (w : World) (e : Ending) (w' : World) : Prop := e = .returned (.bool true) ∧ Below w.heap.size w w'
set_option maxRecDepth 100000 in
set_option maxHeartbeats 4000000 in
theorem awake8 (w : World) : Calls Tryd.prog 7 #[] w (TrueOk' w) := by
  have v1 : checkV 0 [] [] false false (-1) (-1) (⟨#[]⟩, false) (⟨#[97]⟩, false) (-1) 5 true = 1 := by simp [checkV, c1B, c2B, c3B]
  have v2 : checkV 0 [] [(⟨#[97]⟩, true)] false false (-1) (-1) (⟨#[]⟩, false) (⟨#[97]⟩, false) (-1) 5 true = 3 := by
    have e : weakB (⟨#[97]⟩, true) (⟨#[97]⟩, false) = true := by unfold weakB tagOk; simp [ByteArray.size, tagByte]
    simp [checkV, c1B, c2B, inB, e]
  have v3 : checkV 1 [] [] false false (-1) (-1) (⟨#[97]⟩, true) (⟨#[97]⟩, false) (-1) 5 true = 2 := by
    simp [checkV, c1B, c2B, c3B, someTag, strongB]
  have V1 := hide v1
  have V2 := hide v2
  have V3 := hide v3
  clear v1 v2 v3
  go_enter Tryd.func7, Tryd.ntmps7
  go_wp2_with fail
  refine (cnone_any _).mono ?_
  rintro e w1 ⟨rfl, hb1⟩
  have B1 : Blk w1 w.heap.size 45 #[.string ⟨#[97]⟩, .bool false, .int .i64 (-1), .int .i64 5, .int .i64 0, .int .i64 0, .int .i64 0, .int .i64 0, .slice none 0 0, .string ⟨#[]⟩, .bool false] := ((Blk.new w _ _).alloc _).below hb1 (by simp; omega)
  have B2 : Blk w1 (w.heap.size + 1) 27 #[.string ⟨#[97]⟩, .bool true] := (Blk.new' (by simp)).below hb1 (by simp)
  have hB0 : Below w.heap.size w w1 := chain1 hb1
  have z1 : w.heap.size + 1 < w1.heap.size := B2.lt
  have z0 : w.heap.size < w1.heap.size := by omega
  have a1 := fun o i => (B1.alloc o).cell i
  clear hb1
  go_wp2_with fail
  refine (check_any false ⟨#[47, 97]⟩ none 0 0 _ _ [] [] false false (-1) (-1) ⟨#[]⟩ false ⟨#[97]⟩ false (-1) 5 0 0 0 0 _ _ false true _ (by decide) (by decide) (RdTags.nil _ _) (RdTags.nil _ _)).mono ?_
  rintro e w2 ⟨rfl, hb2⟩
  rw [V1.out]
  have C1 : Blk w2 w.heap.size 45 #[.string ⟨#[97]⟩, .bool false, .int .i64 (-1), .int .i64 5, .int .i64 0, .int .i64 0, .int .i64 0, .int .i64 0, .slice none 0 0, .string ⟨#[]⟩, .bool false] := (B1.alloc _).below hb2 (by simp; omega)
  have C2 : Blk w2 (w.heap.size + 1) 27 #[.string ⟨#[97]⟩, .bool true] := (B2.alloc _).below hb2 (by simp; omega)
  have C3 : Blk w2 w1.heap.size 49 #[.bool false, .string ⟨#[47, 97]⟩, .slice none 0 0, .slice none 0 0, .slice none 0 0, .bool false, .bool false, .int .i64 (-1), .int .i64 (-1), .string ⟨#[]⟩, .bool false] := (Blk.new w1 _ _).below hb2 (by simp)
  have hB2 : Below w.heap.size w w2 := (hB0.alloc hB0.size _).trans (hb2.mono (by simp; omega))
  have z2 : w1.heap.size < w2.heap.size := C3.lt
  have z20 : w.heap.size < w2.heap.size := by omega
  have z21 : w.heap.size + 1 < w2.heap.size := by omega
  clear a1 hb2
  have a2 := C2.cell
  have a3 := fun o i => (C3.alloc o).cell i
  have a4 := fun o i => (C3.alloc o).frozen i
  go_upto_region 7 with fail
  obtain ⟨W3, hW3⟩ : ∃ W, W = (w2.setCell ⟨w1.heap.size, 4, none⟩ (.slice (some ⟨w2.heap.size, 0, none⟩) 1 1)).alloc (.cells #[.string ⟨#[97]⟩, .bool true] 27) := ⟨_, rfl⟩
  rw [← hW3]
  have D1 : Blk W3 w.heap.size 45 #[.string ⟨#[97]⟩, .bool false, .int .i64 (-1), .int .i64 5, .int .i64 0, .int .i64 0, .int .i64 0, .int .i64 0, .slice none 0 0, .string ⟨#[]⟩, .bool false] := by rw [hW3]; exact (C1.far (by show w.heap.size ≠ w1.heap.size; omega) _).alloc _
  have D2 : Blk W3 (w.heap.size + 1) 27 #[.string ⟨#[97]⟩, .bool true] := by rw [hW3]; exact (C2.far (by show w.heap.size + 1 ≠ w1.heap.size; omega) _).alloc _
  have D3 : Blk W3 w1.heap.size 49 #[.bool false, .string ⟨#[47, 97]⟩, .slice none 0 0, .slice none 0 0, .slice (some ⟨w2.heap.size, 0, none⟩) 1 1, .bool false, .bool false, .int .i64 (-1), .int .i64 (-1), .string ⟨#[]⟩, .bool false] := by rw [hW3]; exact (C3.set_ 4 _).alloc _
  have D4 : Blk W3 w2.heap.size 27 #[.string ⟨#[97]⟩, .bool true] := by rw [hW3]; exact Blk.new' (by simp [World.setCell])
  have hB3 : Below w.heap.size w W3 := by rw [hW3]; exact (hB2.setCell (by show w.heap.size ≤ w1.heap.size; omega) _).alloc (by simp [World.setCell]; omega) _
  clear hW3 a2 a3 a4
  have a1 := D1.cell
  have a3 := D3.cell
  go_wp2_with fail
  refine (check_any false ⟨#[47, 97]⟩ none 0 0 _ _ [] [(⟨#[97]⟩, true)] false false (-1) (-1) ⟨#[]⟩ false ⟨#[97]⟩ false (-1) 5 0 0 0 0 _ _ false true _ (by decide) (by decide) (RdTags.nil _ _) (RdTags.one (by decide) D4.lt (D4.cell 0) (D4.cell 1))).mono ?_
  rintro e w4 ⟨rfl, hb4⟩
  rw [V2.out]
  have E1 : Blk w4 w.heap.size 45 #[.string ⟨#[97]⟩, .bool false, .int .i64 (-1), .int .i64 5, .int .i64 0, .int .i64 0, .int .i64 0, .int .i64 0, .slice none 0 0, .string ⟨#[]⟩, .bool false] := D1.below hb4 D1.lt
  have E2 : Blk w4 (w.heap.size + 1) 27 #[.string ⟨#[97]⟩, .bool true] := D2.below hb4 D2.lt
  have E3 : Blk w4 w1.heap.size 49 #[.bool false, .string ⟨#[47, 97]⟩, .slice none 0 0, .slice none 0 0, .slice (some ⟨w2.heap.size, 0, none⟩) 1 1, .bool false, .bool false, .int .i64 (-1), .int .i64 (-1), .string ⟨#[]⟩, .bool false] := D3.below hb4 D3.lt
  have hB4 : Below w.heap.size w w4 := hB3.trans (hb4.mono hB3.size)
  clear a1 a3 hb4
  go_upto_region 9 with fail
  have a2 := E2.cell
  have a3 := E3.cell
  have a4 := E3.frozen
  have z4 : w1.heap.size < w4.heap.size := E3.lt
  have n4 : w1.heap.size ≠ w4.heap.size := by omega
  have n5 : w.heap.size + 1 ≠ w1.heap.size := by omega
  have n6 : w1.heap.size ≠ w.heap.size + 1 := by omega
  have z5 : w.heap.size + 1 < w4.heap.size := by omega
  have b2 := fun o i => (E2.alloc o).cell i
  have b3 := fun o i => (E3.alloc o).cell i
  have b4 := fun o i => (E3.alloc o).frozen i
  go_cut [] (fun wx => ∃ sa : Option Addr, Blk wx w1.heap.size 49 #[.bool false, .string ⟨#[47, 97]⟩, .slice sa 1 1, .slice none 0 0, .slice none 0 0, .bool false, .bool false, .int .i64 (-1), .int .i64 (-1), .string ⟨#[97]⟩, .bool true] ∧ Blk wx w.heap.size 45 #[.string ⟨#[97]⟩, .bool false, .int .i64 (-1), .int .i64 5, .int .i64 0, .int .i64 0, .int .i64 0, .int .i64 0, .slice none 0 0, .string ⟨#[]⟩, .bool false] ∧ Below w.heap.size w wx)
  case first =>
    go_region
    go_wp2_with fail
    go_meet
    refine ⟨_, ((((E3.set_ 4 _).set_ 9 _).set_ 10 _).set_ 2 _).alloc _, ((((E1.far ?_ _).far ?_ _).far ?_ _).far ?_ _).alloc _, ?_⟩
    · show w.heap.size ≠ w1.heap.size; omega
    · show w.heap.size ≠ w1.heap.size; omega
    · show w.heap.size ≠ w1.heap.size; omega
    · show w.heap.size ≠ w1.heap.size; omega
    · have hle : w.heap.size ≤ w1.heap.size := by omega
      exact (((((hB4.setCell hle _).setCell hle _).setCell hle _).setCell hle _).alloc (by simp [World.setCell]; omega) _).drew
  case rest =>
    obtain ⟨sa, F3, F1, hB5⟩ := hcut
    have y1 := F1.cell
    have y3 := F3.cell
    clear a2 a3 a4 b2 b3 b4
    go_wp2_with fail
    refine (check_any false ⟨#[47, 97]⟩ sa 1 1 _ _ [] [] false false (-1) (-1) ⟨#[97]⟩ true ⟨#[97]⟩ false (-1) 5 0 0 0 0 _ _ false true _ (by decide) (by decide) (RdTags.nil _ _) (RdTags.nil _ _)).mono ?_
    rintro e w6 ⟨rfl, hb6⟩
    rw [V3.out]
    go_wp2
    go_ret
    exact ⟨rfl, hB5.trans (hb6.mono hB5.size)⟩
end Go.Proofs.YtkmheoolekookaaDoor
