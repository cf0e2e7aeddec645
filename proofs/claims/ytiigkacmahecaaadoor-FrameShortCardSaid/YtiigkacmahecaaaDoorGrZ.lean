/-
  Merged: OpenY, OpenZ.
-/
import Derived.Test.YtiigkacmahecaaaDoorBut
import Derived.ProofKit
import Derived.OpenShut
import Derived.Deep.Slices
import Derived.SizedLaws
namespace Go.Proofs.YtiigkacmahecaaaDoor
open Go.ChangeShapes Go.WideShapes Go.RowKit Go.Deep
set_option linter.unusedVariables false
set_option linter.unusedSimpArgs false

theorem cellsU8 : Tryd.prog.cellsOf 5 = 1 := by kernel_rfl
section
variable {H : Type} {enc : TypeId × Value → H} {w : World} {fuel : Nat} {cs : List Value} {x : DataW H × List MemPlace}
theorem list_of {T : Type} {D : Nat → T → Prop} (n : Nat) (h : ∀ i, i < n → ∃ t, D i t) : ∃ l : List T, l.length = n ∧ ∀ i (hi : i < l.length), D i l[i] := by
  induction n with
  | zero => exact ⟨[], rfl, fun i hi => by simp at hi⟩
  | succ n ih =>
    obtain ⟨l, hl, hd⟩ := ih (fun i hi => h i (by omega))
    obtain ⟨t, ht⟩ := h n (by omega)
    refine ⟨l ++ [t], by simp [hl], fun i hi => ?_⟩
    by_cases hin : i < l.length
    · rw [List.getElem_append_left hin]; exact hd i hin
    · have : i = n := by simp [hl] at hi; omega
      subst this
      rw [List.getElem_append_right (by omega)]
      simpa [hl] using ht
/-- Bytes that come in: readable, if they are no more than a machine holds. -/
def RdB (w : World) (A : Option Addr) (c : Nat) (bs : List UInt8) : Prop := bs.length ≤ c ∧ c ≤ 9223372036854775807 ∧ (bs.length ≤ 140737488355328 → Byt w w.heap.size (.slice A bs.length c) bs)
theorem cell_lt2 {w : World} {a : Addr} {v : Value} (h : w.cell? a = some v) : a.block < w.heap.size := by
  rcases Nat.lt_or_ge a.block w.heap.size with hlt | hge
  · exact hlt
  · simp [World.cell?, Array.getElem?_eq_none hge] at h
set_option maxRecDepth 100000 in
theorem open_bytes (h : DataW.trod enc Tryd.prog w 0 (fun _ => true) true fuel 43 cs = some x) : ∃ (A : Option Addr) (c : Nat) (bs : List UInt8), cs = [.slice A bs.length c] ∧ RdB w A c bs := by
  rcases open_slice1 Tryd.underlying43 cellsU8 h with ⟨hcs, _⟩ | ⟨a, len, cap, m, n, V, D, Pl, hcs, _, hl, hm, hmm, _, hi⟩
  · exact ⟨none, 0, [], hcs, by simp, by simp, fun _ => Byt.nil _ _⟩
  · have hmc : m = cap := by simpa using hmm
    have hM : maxLen ≤ 9223372036854775807 := by decide
    obtain ⟨bs, hts, hc⟩ := list_of (T := UInt8) (D := fun i s => w.cell? (a.add i) = some (.int .u8 (s.toNat : Int))) len (fun i hil => by
      obtain ⟨hc', ht'⟩ := hi i (by omega)
      obtain ⟨z, e0, _, hz⟩ := DataW.trod_int Tryd.underlying5 ht'
      simp at e0
      have k0 : IntKind.u8.min = 0 := by decide
      have k1 : IntKind.u8.max = 255 := by decide
      have h1 : 0 ≤ z ∧ z ≤ 255 := by simpa [Lit.wf, k0, k1] using hz
      exact ⟨UInt8.ofNat z.toNat, by rw [hc', e0]; simp; omega⟩)
    refine ⟨some a, cap, bs, by rw [hts, hcs], by omega, by omega, fun h63 => ⟨h63, some a, cap, rfl, by omega, by omega, fun i hil => ?_⟩⟩
    have c0 := hc i hil
    obtain ⟨b, o, sp⟩ := a
    have hsp : sp = none := by
      have h00 := hc 0 (by omega)
      simpa [Addr.add] using World.cell?_spot h00
    subst hsp
    have hlt := cell_lt2 c0
    have e : (⟨b, o, none⟩ : Addr).add i = ⟨b, o + i, none⟩ := by by_cases hz : i = 0 <;> simp [Addr.add, hz]
    rw [e] at c0 hlt
    exact ⟨b, o, rfl, by simpa using hlt, c0⟩
end
set_option maxRecDepth 100000 in
/-- A slice of bytes that comes in as an argument. -/
theorem open_bytes_arg {H : Type} {enc : TypeId × Value → H} {w : World} {base : Nat} {v : Value} {d : DataW H} {p : List MemPlace} (hv : Value.okWide Tryd.prog w .any base 43 v)
    (h : DataW.Trod enc Tryd.prog w 0 (fun _ => true) true 43 v d p) : ∃ (A : Option Addr) (c : Nat) (bs : List UInt8), v = .slice A bs.length c ∧ RdB w A c bs := by
  obtain ⟨a0, l0, c0, rfl⟩ := okWide_slice Tryd.underlying43 hv
  obtain ⟨fuel, hf⟩ := h
  obtain ⟨A, c, bs, e, h1⟩ := open_bytes (show DataW.trod enc Tryd.prog w 0 (fun _ => true) true fuel 43 [.slice a0 l0 c0] = _ from hf)
  simp at e
  obtain ⟨rfl, rfl, rfl⟩ := e
  exact ⟨_, _, bs, rfl, h1⟩

end Go.Proofs.YtiigkacmahecaaaDoor
namespace Go.Proofs.YtiigkacmahecaaaDoor
open Go.ChangeShapes Go.WideShapes Go.RowKit Go.Deep
set_option linter.unusedVariables false
set_option linter.unusedSimpArgs false

theorem cellsBs : Tryd.prog.cellsOf 43 = 1 := by kernel_rfl
theorem bytesU8 : Tryd.prog.bytesOf 5 = 1 := by kernel_rfl
abbrev BsZ := Option Addr × Nat × List UInt8
def BsZ.val (b : BsZ) : Value := .slice b.1 b.2.2.length b.2.1
theorem weightsAll_mem {H : Type} {P : Program} {e : TypeId} {d : DataW H} {n : Nat} (hn : n ∈ d.weights P e) : ∀ {l : List (DataW H)}, d ∈ l → n ∈ DataW.weightsAll P e l
  | c :: l, h => by
    simp only [DataW.weightsAll, List.mem_append]
    rcases List.mem_cons.1 h with rfl | h
    · exact .inl hn
    · exact .inr (weightsAll_mem hn h)
section
variable {H : Type} {enc : TypeId × Value → H} {w : World} {fuel : Nat} {cs : List Value} {x : DataW H × List MemPlace}
set_option maxRecDepth 100000 in
/-- Bytes that come in, and what the reach says of them. -/
theorem open_bytes_sized (h : DataW.trod enc Tryd.prog w 0 (fun _ => true) true fuel 43 cs = some x) : ∃ (A : Option Addr) (c : Nat) (bs : List UInt8), cs = [.slice A bs.length c] ∧ RdB w A c bs ∧ ((∀ n ∈ x.1.weights Tryd.prog 43, n ≤ reachBytes) → bs.length ≤ 140737488351232) := by
  obtain ⟨A, c, bs, hcs, hr⟩ := open_bytes h
  refine ⟨A, c, bs, hcs, hr, fun hw => ?_⟩
  rcases open_slice1 Tryd.underlying43 cellsU8 h with ⟨hcs', _⟩ | ⟨a, len, cap, m, n, V, D, Pl, hcs', _, hl, hm, hmm, hx, hi⟩
  · rw [hcs'] at hcs
    simp at hcs
    omega
  · rw [hcs'] at hcs
    simp at hcs
    have h1 := hw ((((List.range len).map D).length + ((List.range (m - len)).map fun j => D (len + j)).length) * Tryd.prog.bytesOf 5) (by rw [hx]; simp [DataW.weights, Tryd.underlying43])
    rw [bytesU8] at h1
    have h2 : reachBytes = 140737488351232 := by decide
    simp at h1
    omega
end
def RdBB (w : World) (A : Option Addr) (c : Nat) (ls : List BsZ) : Prop := ls.length ≤ 9223372036854775807 ∧ ∀ i (h : i < ls.length), ∃ b off, A = some ⟨b, off, none⟩ ∧ b < w.heap.size ∧ w.cell? ⟨b, off + i, none⟩ = some ls[i].val ∧ RdB w ls[i].1 ls[i].2.1 ls[i].2.2 ∧ ls[i].2.2.length ≤ 140737488351232
set_option maxRecDepth 100000 in
theorem open_bss_arg {H : Type} {enc : TypeId × Value → H} {w : World} {base : Nat} {v : Value} {d : DataW H} {p : List MemPlace} (hv : Value.okWide Tryd.prog w .any base 32 v)
    (h : DataW.Trod enc Tryd.prog w 0 (fun _ => true) true 32 v d p) (hw : ∀ n ∈ d.weights Tryd.prog 32, n ≤ reachBytes) : ∃ (A : Option Addr) (c : Nat) (ls : List BsZ), v = .slice A ls.length c ∧ RdBB w A c ls := by
  obtain ⟨a0, l0, c0, rfl⟩ := okWide_slice Tryd.underlying32 hv
  obtain ⟨fuel, hf⟩ := h
  rcases open_slice1 Tryd.underlying32 cellsBs (show DataW.trod enc Tryd.prog w 0 (fun _ => true) true fuel 32 [.slice a0 l0 c0] = _ from hf) with ⟨hcs, _⟩ | ⟨a, len, cap, m, n, V, D, Pl, hcs, _, hl, hm, hmm, hx, hi⟩
  · simp at hcs
    obtain ⟨rfl, rfl, rfl⟩ := hcs
    exact ⟨none, 0, [], rfl, by simp, fun i h => by simp at h⟩
  · simp at hcs
    obtain ⟨rfl, rfl, rfl⟩ := hcs
    simp only [Prod.mk.injEq] at hx
    obtain ⟨rfl, _⟩ := hx
    have hmc : m = c0 := by simpa using hmm
    have hM : maxLen ≤ 9223372036854775807 := by decide
    obtain ⟨bs, hts, hc⟩ := list_of (T := BsZ) (D := fun i s => w.cell? (a.add i) = some s.val ∧ RdB w s.1 s.2.1 s.2.2 ∧ s.2.2.length ≤ 140737488351232) l0 (fun i hil => by
      obtain ⟨hc', ht'⟩ := hi i (by omega)
      obtain ⟨A, c, b, e0, h1, h2⟩ := open_bytes_sized ht'
      simp at e0
      refine ⟨(A, c, b), by rw [hc', e0]; rfl, h1, h2 (fun n hn => hw n ?_)⟩
      simp only [DataW.weights, Tryd.underlying32, List.mem_cons, List.mem_append]
      exact .inr (.inl (weightsAll_mem hn (List.mem_map.2 ⟨i, by simpa using hil, rfl⟩))))
    refine ⟨some a, c0, bs, by rw [hts], by omega, fun i hil => ?_⟩
    have c0' := (hc i hil).1
    obtain ⟨b, o, sp⟩ := a
    have hsp : sp = none := by
      have h00 := (hc 0 (by omega)).1
      simpa [Addr.add] using World.cell?_spot h00
    subst hsp
    have hlt := cell_lt2 c0'
    have e : (⟨b, o, none⟩ : Addr).add i = ⟨b, o + i, none⟩ := by by_cases hz : i = 0 <;> simp [Addr.add, hz]
    rw [e] at c0' hlt
    exact ⟨b, o, rfl, by simpa using hlt, c0', (hc i hil).2.1, (hc i hil).2.2⟩

end Go.Proofs.YtiigkacmahecaaaDoor
