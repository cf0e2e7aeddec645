/-
  strconv.AppendInt of base 16, its callees.
-/
import Derived.Test.YteebpclbpclhaaaDoorBut
import Derived.Test.YteebpclbpclhaaaDoorHexM
import Derived.Laws.BitsAllLaws
import Derived.Outline
namespace Go.Proofs.YteebpclbpclhaaaDoor
open Go.RowKit
set_option linter.unusedVariables false
set_option linter.unusedSimpArgs false

def DIG : ByteArray := ⟨#[48, 49, 50, 51, 52, 53, 54, 55, 56, 57, 97, 98, 99, 100, 101, 102, 103, 104, 105, 106, 107, 108, 109, 110, 111, 112, 113, 114, 115, 116, 117, 118, 119, 120, 121, 122]⟩
/-- The one cell of the table of trailing zeros that is read here. -/
def Tab (w : World) : Prop := w.cell? ⟨2, 15, none⟩ = some (.int .u8 4)
theorem Tab.lt {w : World} (h : Tab w) : 2 < w.heap.size := by
  rcases Nat.lt_or_ge 2 w.heap.size with hlt | hge
  · exact hlt
  · simp [Tab, World.cell?, Array.getElem?_eq_none hge] at h
theorem Tab.below {w w' : World} (h : Tab w) (hb : Below w.heap.size w w') : Tab w' := by
  unfold Tab; rw [hb.cell h.lt]; exact h
theorem Tab.alloc {w : World} (h : Tab w) (o : Obj) : Tab (w.alloc o) := h.below ((Below.refl _ _).alloc (Nat.le_refl _) o)
theorem Tab.but {w w' : World} {g : Nat} {t : TypeId} {cs : Array Value} (h : Tab w) (hb : But g w w') (X : Blk w g t cs) (hcs : ∀ (j : Nat) (z : Int), cs[j]? ≠ some (Value.int .u8 z)) : Tab w' := by
  have hne : 2 ≠ g := by
    rintro rfl
    have h' := h
    unfold Tab at h'
    rw [X.cell] at h'
    exact hcs _ _ h'
  unfold Tab
  rw [World.cell?_of_block (hb.block 2 h.lt (by simpa using hne))]
  exact h
theorem Tab.grown {w w' : World} {row : Option Nat} (h : Tab w) (hg : w.grownBy w' row) (hr : row ≠ some 2) : Tab w' := by
  unfold Tab
  rw [World.cell?_of_block (hg.block 2 h.lt (fun e => hr e.symm))]
  exact h
theorem dig_at (k : Nat) (hk : k < 16) (W : World) : (Instr.index 9 (.string DIG) (.int .u64 (k : Int))).run Tryd.prog W = .ok (.int .u8 ((hexC k).toNat : Int)) W := by
  have h : k = 0 ∨ k = 1 ∨ k = 2 ∨ k = 3 ∨ k = 4 ∨ k = 5 ∨ k = 6 ∨ k = 7 ∨ k = 8 ∨ k = 9 ∨ k = 10 ∨ k = 11 ∨ k = 12 ∨ k = 13 ∨ k = 14 ∨ k = 15 := by omega
  rcases h with rfl | rfl | rfl | rfl | rfl | rfl | rfl | rfl | rfl | rfl | rfl | rfl | rfl | rfl | rfl | rfl <;> rfl
theorem and15 (u : Nat) (h : u < 18446744073709551616) : bits .and .u64 (u : Int) 15 = ((u % 16 : Nat) : Int) := by
  have e : u &&& 15 = u % 16 := Nat.and_two_pow_sub_one_eq_mod u 4
  rw [show (15 : Int) = ((15 : Nat) : Int) from rfl, u64_and_nat u 15 h (by decide), e]

set_option maxHeartbeats 1000000 in
theorem pow_two (w : World) : Calls Tryd.prog 44 #[.int .i64 16] w fun e w' => e = .returned (.bool true) ∧ w = w' := by
  have hb : bits .and .i64 16 15 = 0 := by decide
  go_enter Tryd.func44, Tryd.ntmps44
  go_wp2
  go_ret
  exact ⟨rfl, rfl⟩

set_option maxHeartbeats 1000000 in
theorem zeros64 (w : World) (h : Tab w) : Calls Tryd.prog 47 #[.int .u64 16] w fun e w' => e = .returned (.int .i64 4) ∧ w = w' := by
  unfold Tab at h
  have e1 : bits .and .u64 16 (IntKind.u64.wrap (-16)) = 16 := by decide +kernel
  go_enter Tryd.func47, Tryd.ntmps47
  go_wp2
  go_ret
  exact ⟨rfl, rfl⟩

set_option maxHeartbeats 1000000 in
theorem zeros (w : World) (h : Tab w) : Calls Tryd.prog 45 #[.int .u64 16] w fun e w' => e = .returned (.int .i64 4) ∧ w = w' := by
  have H := hide h
  clear h
  go_enter Tryd.func45, Tryd.ntmps45
  go_wp2_with fail
  refine (zeros64 _ H.out).mono ?_
  rintro e w' ⟨rfl, rfl⟩
  go_wp2
  go_ret
  exact ⟨rfl, rfl⟩

end Go.Proofs.YteebpclbpclhaaaDoor
