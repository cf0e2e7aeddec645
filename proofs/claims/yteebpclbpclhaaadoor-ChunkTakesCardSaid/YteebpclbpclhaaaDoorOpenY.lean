/-
  Bytes that come in, opened.
-/
import Derived.Test.YteebpclbpclhaaaDoorBut
import Derived.ProofKit
import Derived.OpenShut
import Derived.Deep.Slices
namespace Go.Proofs.YteebpclbpclhaaaDoor
open Go.ChangeShapes Go.WideShapes Go.RowKit Go.Deep
set_option linter.unusedVariables false
set_option linter.unusedSimpArgs false

theorem cellsU8 : Tryd.prog.cellsOf 5 = 1 := by kernel_rfl
section
variable {H : Type} {enc : TypeId × Value → H} {w : World} {fuel : Nat} {cs : List Value} {x : DataW H × List MemPlace}
theorem list_of {T : Type} {D : Nat → T → Prop} (n : Nat) (h : ∀ i, i < n → ∃ t, D i t) : ∃ l : List T, l.length = n ∧ ∀ i (hi : i < l.length), D i l[i] := by
  induction n with
  | zero => exact ⟨[], rfl, fun i hi => by simp at hi⟩
  | succ n ih =>
    obtain ⟨l, hl, hd⟩ := ih (fun i hi => h i (by omega))
    obtain ⟨t, ht⟩ := h n (by omega)
    refine ⟨l ++ [t], by simp [hl], fun i hi => ?_⟩
    by_cases hin : i < l.length
    · rw [List.getElem_append_left hin]; exact hd i hin
    · have : i = n := by simp [hl] at hi; omega
      subst this
      rw [List.getElem_append_right (by omega)]
      simpa [hl] using ht
/-- Bytes that come in: readable, if they are no more than a machine holds. -/
def RdB (w : World) (A : Option Addr) (c : Nat) (bs : List UInt8) : Prop := bs.length ≤ c ∧ c ≤ 9223372036854775807 ∧ (bs.length ≤ 140737488355328 → Byt w w.heap.size (.slice A bs.length c) bs)
theorem cell_lt2 {w : World} {a : Addr} {v : Value} (h : w.cell? a = some v) : a.block < w.heap.size := by
  rcases Nat.lt_or_ge a.block w.heap.size with hlt | hge
  · exact hlt
  · simp [World.cell?, Array.getElem?_eq_none hge] at h
theorem open_bytes (h : DataW.trod enc Tryd.prog w 0 (fun _ => true) true fuel 24 cs = some x) : ∃ (A : Option Addr) (c : Nat) (bs : List UInt8), cs = [.slice A bs.length c] ∧ RdB w A c bs := by
  rcases open_slice1 Tryd.underlying24 cellsU8 h with ⟨hcs, _⟩ | ⟨a, len, cap, m, n, V, D, Pl, hcs, _, hl, hm, hmm, _, hi⟩
  · exact ⟨none, 0, [], hcs, by simp, by simp, fun _ => Byt.nil _ _⟩
  · have hmc : m = cap := by simpa using hmm
    have hM : maxLen ≤ 9223372036854775807 := by decide
    obtain ⟨bs, hts, hc⟩ := list_of (T := UInt8) (D := fun i s => w.cell? (a.add i) = some (.int .u8 (s.toNat : Int))) len (fun i hil => by
      obtain ⟨hc', ht'⟩ := hi i (by omega)
      obtain ⟨z, e0, _, hz⟩ := DataW.trod_int Tryd.underlying5 ht'
      simp at e0
      have k0 : IntKind.u8.min = 0 := by decide
      have k1 : IntKind.u8.max = 255 := by decide
      have h1 : 0 ≤ z ∧ z ≤ 255 := by simpa [Lit.wf, k0, k1] using hz
      exact ⟨UInt8.ofNat z.toNat, by rw [hc', e0]; simp; omega⟩)
    refine ⟨some a, cap, bs, by rw [hts, hcs], by omega, by omega, fun h63 => ⟨h63, some a, cap, rfl, by omega, by omega, fun i hil => ?_⟩⟩
    have c0 := hc i hil
    obtain ⟨b, o, sp⟩ := a
    have hsp : sp = none := by
      have h00 := hc 0 (by omega)
      simpa [Addr.add] using World.cell?_spot h00
    subst hsp
    have hlt := cell_lt2 c0
    have e : (⟨b, o, none⟩ : Addr).add i = ⟨b, o + i, none⟩ := by by_cases hz : i = 0 <;> simp [Addr.add, hz]
    rw [e] at c0 hlt
    exact ⟨b, o, rfl, by simpa using hlt, c0⟩
end
/-- A slice of bytes that comes in as an argument. -/
theorem open_bytes_arg {H : Type} {enc : TypeId × Value → H} {w : World} {base : Nat} {v : Value} {d : DataW H} {p : List MemPlace} (hv : Value.okWide Tryd.prog w .any base 24 v)
    (h : DataW.Trod enc Tryd.prog w 0 (fun _ => true) true 24 v d p) : ∃ (A : Option Addr) (c : Nat) (bs : List UInt8), v = .slice A bs.length c ∧ RdB w A c bs := by
  obtain ⟨a0, l0, c0, rfl⟩ := okWide_slice Tryd.underlying24 hv
  obtain ⟨fuel, hf⟩ := h
  obtain ⟨A, c, bs, e, h1⟩ := open_bytes (show DataW.trod enc Tryd.prog w 0 (fun _ => true) true fuel 24 [.slice a0 l0 c0] = _ from hf)
  simp at e
  obtain ⟨rfl, rfl, rfl⟩ := e
  exact ⟨_, _, bs, rfl, h1⟩

end Go.Proofs.YteebpclbpclhaaaDoor
