/-
  Merged: CondA, CondB.
-/
import Derived.Test.YtkmheoolekookaaDoorGrTb
namespace Go.Proofs.YtkmheoolekookaaDoor
open Go.RowKit

end Go.Proofs.YtkmheoolekookaaDoor
namespace Go.Proofs.YtkmheoolekookaaDoor
open Go.RowKit

def SomeBool (w : World) (e : Ending) (w' : World) : Prop := ∃ b, e = .returned (.bool b) ∧ Below w.heap.size w w'

/-- 'slice .. of n tags', its cells as they are. -/
def RowOf (w : World) (B : Nat) (A : Option Addr) (ts : List Tag) : Prop :=
  ∀ i (h : i < ts.length), ∃ b off, A = some ⟨b, off, none⟩ ∧ b < B ∧ w.cell? ⟨b, off + i * 2, none⟩ = some (.string ts[i].1) ∧ w.cell? ⟨b, off + i * 2 + 1, none⟩ = some (.bool ts[i].2)

set_option maxHeartbeats 4000000 in
theorem few_any (m n : Value) (ts us : List Tag) (am an : Bool) (si un : Int) (rt : ByteArray) (rk : Bool) (w : World) (h1 : RdTags w w.heap.size m ts) (h2 : RdTags w w.heap.size n us) :
    Calls Tryd.prog 12 #[.agg #[m, n, .bool am, .bool an, .int .i64 si, .int .i64 un, .string rt, .bool rk]] w (SomeBool w) := by
  obtain ⟨p0, p1, A1, c1, rfl, p2⟩ := h1
  obtain ⟨q0, q1, A2, c2, rfl, q2⟩ := h2
  have P2 := hide p2
  have Q2 := hide q2
  clear p2 q2 p1 q1
  go_enter Tryd.func12, Tryd.ntmps12
  go_wp2_with fail
  obtain ⟨W, hW⟩ : ∃ W : World, W = (w.alloc (.cells #[.slice A1 ts.length c1, .slice A2 us.length c2, .bool am, .bool an, .int .i64 si, .int .i64 un, .string rt, .bool rk] 29)).alloc (.cells #[.slice A1 ts.length c1, .slice A2 us.length c2] 25) := ⟨_, rfl⟩
  rw [← hW]
  have e0 : W.cell? ⟨w.heap.size + 1, 0, none⟩ = some (.slice A1 ts.length c1) := by rw [hW]; simp [go_sem]
  have e1 : W.cell? ⟨w.heap.size + 1, 1, none⟩ = some (.slice A2 us.length c2) := by rw [hW]; simp [go_sem]
  have hz : W.heap.size = w.heap.size + 2 := by rw [hW]; simp
  have hBW : Below w.heap.size w W := by rw [hW]; exact ((Below.refl _ _).alloc (Nat.le_refl _) _).alloc (by simp) _
  have HZ := hide hz
  have HW := hide hW
  clear hz hW
  go_loopw [3, 18] (fun x i wr => ∃ (k : Nat) (z : Int), k ≤ 2 ∧ i = .int .i64 k ∧ x = .int .i64 z ∧ Below W.heap.size W wr) (fun _ i _ => 2 - (intOf i).toNat)
  case atStart => exact ⟨0, _, Nat.zero_le _, rfl, rfl, Below.refl _ _⟩
  case round =>
    obtain ⟨k, z, hk, rfl, rfl, hb⟩ := hrel
    have d0 : wr.cell? ⟨w.heap.size + 1, 0, none⟩ = some (.slice A1 ts.length c1) := by rw [hb.cell (by rw [HZ.out]; show w.heap.size + 1 < _; omega)]; exact e0
    have d1 : wr.cell? ⟨w.heap.size + 1, 1, none⟩ = some (.slice A2 us.length c2) := by rw [hb.cell (by rw [HZ.out]; show w.heap.size + 1 < _; omega)]; exact e1
    obtain rfl | rfl | rfl : k = 0 ∨ k = 1 ∨ k = 2 := by omega
    · by_cases hl : 40 < (ts.length : Int)
      · go_wp2_with fail
        go_ret
        exact ⟨_, rfl, hBW.trans (hb.mono hBW.size)⟩
      · go_wp2_with fail
        obtain ⟨wo, hwo⟩ : ∃ wo : World, wo = wr := ⟨_, rfl⟩
        have HB := hide hb
        clear hwo hb d0 d1
        go_loopw [3, 27] (fun x i wr => ∃ (j : Nat) (y : Int), j ≤ ts.length ∧ i = .int .i64 j ∧ x = .int .i64 y ∧ Below W.heap.size W wr) (fun _ i _ => ts.length - (intOf i).toNat)
        case atStart => exact ⟨0, _, Nat.zero_le _, rfl, rfl, HB.out⟩
        case round =>
          obtain ⟨j, y, hj, rfl, rfl, hq⟩ := hrel
          have hqz : W.heap.size ≤ wr.heap.size := hq.size
          by_cases hlt : j < ts.length
          · obtain ⟨b, off, rfl, hbl, x1, x2⟩ := P2.out j hlt
            have y1 : wr.cell? ⟨b, off + j * 2, none⟩ = some (.string ts[j].1) := by rw [hq.cell (by rw [HZ.out]; show b < _; omega), hBW.cell hbl]; exact x1
            have y2 : wr.cell? ⟨b, off + j * 2 + 1, none⟩ = some (.bool ts[j].2) := by rw [hq.cell (by rw [HZ.out]; show b < _; omega), hBW.cell hbl]; exact x2
            clear x1 x2
            by_cases hs : 400 < (ts[j].1.size : Int)
            · go_wp2
              go_ret
              exact ⟨_, rfl, hBW.trans ((hq.alloc hqz _).mono hBW.size)⟩
            · go_wp2
              go_roundw
              case rel => exact ⟨j + 1, _, by omega, by go_num, rfl, hq.alloc hqz _⟩
              case measure => simp [intOf]; omega
          · go_wp2
            go_roundw
            case rel => exact ⟨1, _, by omega, rfl, rfl, hq⟩
            case measure => simp [intOf]
    · by_cases hl : 40 < (us.length : Int)
      · go_wp2_with fail
        go_ret
        exact ⟨_, rfl, hBW.trans (hb.mono hBW.size)⟩
      · go_wp2_with fail
        obtain ⟨wo, hwo⟩ : ∃ wo : World, wo = wr := ⟨_, rfl⟩
        have HB := hide hb
        clear hwo hb d0 d1
        go_loopw [3, 27] (fun x i wr => ∃ (j : Nat) (y : Int), j ≤ us.length ∧ i = .int .i64 j ∧ x = .int .i64 y ∧ Below W.heap.size W wr) (fun _ i _ => us.length - (intOf i).toNat)
        case atStart => exact ⟨0, _, Nat.zero_le _, rfl, rfl, HB.out⟩
        case round =>
          obtain ⟨j, y, hj, rfl, rfl, hq⟩ := hrel
          have hqz : W.heap.size ≤ wr.heap.size := hq.size
          by_cases hlt : j < us.length
          · obtain ⟨b, off, rfl, hbl, x1, x2⟩ := Q2.out j hlt
            have y1 : wr.cell? ⟨b, off + j * 2, none⟩ = some (.string us[j].1) := by rw [hq.cell (by rw [HZ.out]; show b < _; omega), hBW.cell hbl]; exact x1
            have y2 : wr.cell? ⟨b, off + j * 2 + 1, none⟩ = some (.bool us[j].2) := by rw [hq.cell (by rw [HZ.out]; show b < _; omega), hBW.cell hbl]; exact x2
            clear x1 x2
            by_cases hs : 400 < (us[j].1.size : Int)
            · go_wp2
              go_ret
              exact ⟨_, rfl, hBW.trans ((hq.alloc hqz _).mono hBW.size)⟩
            · go_wp2
              go_roundw
              case rel => exact ⟨j + 1, _, by omega, by go_num, rfl, hq.alloc hqz _⟩
              case measure => simp [intOf]; omega
          · go_wp2
            go_roundw
            case rel => exact ⟨2, _, by omega, rfl, rfl, hq⟩
            case measure => simp [intOf]
    · go_wp2
      go_ret
      exact ⟨_, rfl, hBW.trans (hb.mono hBW.size)⟩
end Go.Proofs.YtkmheoolekookaaDoor
