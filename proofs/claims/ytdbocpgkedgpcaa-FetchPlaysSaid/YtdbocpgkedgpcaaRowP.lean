/-
  A whole struct of many cells: loaded at an address, stored into a block of its own.
-/
import Derived.Test.YtdbocpgkedgpcaaFetM
import Derived.Deep.MidRow
namespace Go.Proofs.Ytdbocpgkedgpcaa
open Go.RowKit
set_option linter.unusedVariables false

theorem But.setCells {g : Nat} {a : World} : ∀ (vs : List Value) (o : Nat) {b : World}, But g a b → But g a (b.setCells g o vs)
  | [], _, _, h => h
  | v :: r, o, _, h => But.setCells r (o + 1) (h.set_ v)
theorem Blk.setCells {g : Nat} {t : TypeId} : ∀ (vs : List Value) (o : Nat) {w : World} {zs : Array Value}, Blk w g t zs → o + vs.length ≤ zs.size →
    ∃ ys : Array Value, Blk (w.setCells g o vs) g t ys ∧ ys.size = zs.size ∧ ∀ i, ys[i]? = if o ≤ i ∧ i < o + vs.length then vs[i - o]? else zs[i]?
  | [], o, w, zs, h, _ => ⟨zs, h, rfl, fun i => by rw [if_neg (by simp <;> omega)]⟩
  | v :: r, o, w, zs, h, hl => by
    have hlen : (v :: r).length = r.length + 1 := rfl
    obtain ⟨ys, h1, h2, h3⟩ := Blk.setCells r (o + 1) (h.set_ o v) (by simp; omega)
    refine ⟨ys, h1, by rw [h2]; simp, fun i => ?_⟩
    rw [h3 i]
    by_cases hi : i = o
    · subst hi
      rw [if_neg (by omega), if_pos (by omega), Nat.sub_self, Array.getElem?_setIfInBounds, if_pos rfl, if_pos (by omega)]
      rfl
    · by_cases hr : o + 1 ≤ i ∧ i < o + 1 + r.length
      · rw [if_pos hr, if_pos (by omega)]
        obtain ⟨k, hk⟩ : ∃ k, i - o = k + 1 := ⟨i - o - 1, by omega⟩
        rw [hk, show i - (o + 1) = k by omega]
        rfl
      · rw [if_neg hr, if_neg (by omega), Array.getElem?_setIfInBounds, if_neg (fun e => hi e.symm)]
theorem Blk.setAll {w : World} {g : Nat} {t : TypeId} {zs : Array Value} (h : Blk w g t zs) (cells : Array Value) (hs : zs.size = cells.size) : Blk (w.setCells g 0 cells.toList) g t cells := by
  obtain ⟨ys, h1, h2, h3⟩ := Blk.setCells cells.toList 0 h (by simp; omega)
  have : ys = cells := by
    apply Array.ext_getElem?
    intro i
    rw [h3 i]
    by_cases hi : i < cells.size
    · rw [if_pos (by simp; omega)]; simp
    · rw [if_neg (by simp; omega), Array.getElem?_eq_none (by omega), Array.getElem?_eq_none (by omega)]
  rw [this] at h1
  exact h1
/-- A struct's store into a block of its own. -/
theorem wpList_store_box {ops : Array Oper} {rest : List Oper} {op : Oper} {a : Act} {w : World} {Q : Exit → Act → World → Prop} (hgd : op.guard = none) (ty : TypeId) (x y : Operand) (ho : op.op = .store ty x y)
    (g : Nat) (t : TypeId) (zs cells : Array Value) (hx : a.eval x = .pointer (some ⟨g, 0, none⟩)) (hy : a.eval y = .agg cells)
    (hz : Blk w g t zs) (hs : zs.size = cells.size) (hi : (Try.prog.info? ty).map (·.size) = some cells.size) (h1 : cells.all (·.oneCell') = true)
    (h : ∀ w', Blk w' g t cells → But g w w' → wpList Try.prog ops Q rest (a.put op.dst undef) w') : wpList Try.prog ops Q (op :: rest) a w := by
  refine wpList_store_mid hgd ty x y ho g 0 cells hx hy (fun j hj => ?_) hi h1 (h _ (hz.setAll cells hs) (But.setCells _ _ (But.refl _ _)))
  rw [Nat.zero_add, hz.cell, hz.frozen]
  exact ⟨by rw [Array.getElem?_eq_getElem (by omega)]; rfl, rfl⟩
end Go.Proofs.Ytdbocpgkedgpcaa
