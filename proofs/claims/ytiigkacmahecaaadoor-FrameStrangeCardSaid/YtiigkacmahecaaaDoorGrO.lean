/-
  Merged: OpenA, OpenC, OpenT, OpenG.
-/
import Derived.Test.YtiigkacmahecaaaDoorGrTa
import Derived.ProofKit
import Derived.Deep.Slices
import Derived.Lib.SmallJoins
import Derived.Test.YtiigkacmahecaaaDoorTagS
import Derived.SizedLaws
import Derived.OpenShut
import Derived.Test.YtiigkacmahecaaaDoorGrFf
namespace Go.Proofs.YtiigkacmahecaaaDoor
open Go.ChangeShapes Go.WideShapes Go.RowKit Go.Deep

section
variable {H : Type} {enc : TypeId × Value → H} {w : World} {fuel : Nat} {cs : List Value} {x : DataW H × List MemPlace}

theorem field_of {t : TypeId} {fs : Array Field} (ht : Tryd.prog.underlying t = some (.struct fs)) (h : DataW.trod enc Tryd.prog w 0 (fun _ => true) true fuel t cs = some x) (i : Nat) (f : Field) (hf : fs[i]? = some f) (k : Nat) (hk : Tryd.prog.cellsOf f.type = k) :
    ∃ n y, DataW.trod enc Tryd.prog w 0 (fun _ => true) true n f.type ((cs.drop f.offset).take k) = some y := by
  obtain ⟨xs, n, _, _, _, hlen, hg⟩ := DataW.trod_struct ht h
  have h1 := hg i f hf
  have hi : i < xs.length := by rw [hlen]; exact (Array.getElem?_eq_some_iff.1 hf).1
  rw [List.getElem?_eq_getElem hi, hk] at h1
  exact ⟨n, _, h1⟩
theorem cells_len {t : TypeId} {fs : Array Field} (ht : Tryd.prog.underlying t = some (.struct fs)) (h : DataW.trod enc Tryd.prog w 0 (fun _ => true) true fuel t cs = some x) (k : Nat) (hk : Tryd.prog.cellsOf t = k) : cs.length = k := by
  obtain ⟨xs, n, _, _, hl, _, _⟩ := DataW.trod_struct ht h
  rw [hl, hk]

theorem cellsStr : Tryd.prog.cellsOf 9 = 1 := by kernel_rfl
theorem cellsBool : Tryd.prog.cellsOf 4 = 1 := by kernel_rfl
theorem cellsI64 : Tryd.prog.cellsOf 2 = 1 := by kernel_rfl
theorem mLen : maxLen ≤ 9223372036854775807 := by decide

theorem cell_at {w : World} {a : Addr} {v : Value} (h : w.cell? a = some v) : a = ⟨a.block, a.off, none⟩ := by
  obtain ⟨b, o, sp⟩ := a
  have : sp = none := by simpa using World.cell?_spot h
  subst this; rfl

theorem list_of {T : Type} {D : Nat → T → Prop} (n : Nat) (h : ∀ i, i < n → ∃ t, D i t) : ∃ l : List T, l.length = n ∧ ∀ i (hi : i < l.length), D i l[i] := by
  induction n with
  | zero => exact ⟨[], rfl, fun i hi => by simp at hi⟩
  | succ n ih =>
    obtain ⟨l, hl, hd⟩ := ih (fun i hi => h i (by omega))
    obtain ⟨t, ht⟩ := h n (by omega)
    refine ⟨l ++ [t], by simp [hl], fun i hi => ?_⟩
    by_cases hin : i < l.length
    · rw [List.getElem_append_left hin]; exact hd i hin
    · have : i = n := by simp [hl] at hi; omega
      subst this
      rw [List.getElem_append_right (by omega)]
      simpa [hl] using ht

end
end Go.Proofs.YtiigkacmahecaaaDoor
namespace Go.Proofs.YtiigkacmahecaaaDoor
open Go.ChangeShapes Go.WideShapes Go.RowKit Go.Deep

section
variable {H : Type} {enc : TypeId × Value → H} {w : World} {fuel : Nat} {cs : List Value} {x : DataW H × List MemPlace}
theorem cellsStrs : Tryd.prog.cellsOf 64 = 1 := by kernel_rfl

theorem open_any_slice {t e : TypeId} (ht : Tryd.prog.underlying t = some (.slice e)) (h : DataW.trod enc Tryd.prog w 0 (fun _ => true) true fuel t cs = some x) : ∃ (a : Option Addr) (l c : Nat), cs = [.slice a l c] ∧ l ≤ maxLen := by
  rcases open_slice ht h with ⟨hcs, _⟩ | ⟨a, len, cap, m, n, D, Pl, hcs, _, hl, hm, _⟩
  · exact ⟨none, 0, 0, hcs, by decide⟩
  · exact ⟨some a, len, cap, hcs, by omega⟩

end

set_option maxRecDepth 100000 in
/-- A struct that comes in by value: its cells. -/
theorem open_struct {H : Type} {enc : TypeId × Value → H} {w : World} {base : Nat} {t : TypeId} {fs : Array Field} {v : Value} {d : DataW H} {p : List MemPlace} (ht : Tryd.prog.underlying t = some (.struct fs)) (hv : Value.okWide Tryd.prog w .any base t v)
    (h : DataW.Trod enc Tryd.prog w 0 (fun _ => true) true t v d p) : ∃ (cs : List Value) (fuel : Nat) (x : DataW H × List MemPlace), v = .agg cs.toArray ∧ DataW.trod enc Tryd.prog w 0 (fun _ => true) true fuel t cs = some x := by
  obtain ⟨cs, rfl, _⟩ := okWide_struct ht hv
  obtain ⟨fuel, hf⟩ := h
  exact ⟨cs.toList, fuel, _, by simp, by simpa [Value.cells] using hf⟩
set_option maxRecDepth 100000 in
/-- A slice that comes in: its three parts. -/
theorem open_slice_len {H : Type} {enc : TypeId × Value → H} {w : World} {base : Nat} {t e : TypeId} {v : Value} {d : DataW H} {p : List MemPlace} (ht : Tryd.prog.underlying t = some (.slice e)) (hv : Value.okWide Tryd.prog w .any base t v)
    (h : DataW.Trod enc Tryd.prog w 0 (fun _ => true) true t v d p) : ∃ (a : Option Addr) (l c : Nat), v = .slice a l c ∧ l ≤ maxLen := by
  obtain ⟨a, l, c, rfl⟩ := okWide_slice ht hv
  obtain ⟨fuel, hf⟩ := h
  obtain ⟨a', l', c', e2, w2⟩ := open_any_slice ht (show DataW.trod enc Tryd.prog w 0 (fun _ => true) true fuel t [.slice a l c] = _ from hf)
  simp at e2
  obtain ⟨rfl, rfl, rfl⟩ := e2
  exact ⟨_, _, _, rfl, w2⟩
end Go.Proofs.YtiigkacmahecaaaDoor
namespace Go.Proofs.YtiigkacmahecaaaDoor
open Go.ChangeShapes Go.WideShapes Go.RowKit Go.Deep
set_option linter.unusedVariables false
set_option linter.unusedSimpArgs false

theorem weightsAll_mem {H : Type} {P : Program} {e : TypeId} {d : DataW H} {n : Nat} (hn : n ∈ d.weights P e) : ∀ {l : List (DataW H)}, d ∈ l → n ∈ DataW.weightsAll P e l
  | c :: l, h => by
    simp only [DataW.weightsAll, List.mem_append]
    rcases List.mem_cons.1 h with rfl | h
    · exact .inl hn
    · exact .inr (weightsAll_mem hn h)
theorem reach_is : reachBytes = 140737488351232 := by decide
section
variable {H : Type} {enc : TypeId × Value → H} {w : World} {fuel : Nat} {cs : List Value} {x : DataW H × List MemPlace}
end
end Go.Proofs.YtiigkacmahecaaaDoor
namespace Go.Proofs.YtiigkacmahecaaaDoor
open Go.ChangeShapes Go.WideShapes Go.RowKit Go.Deep
set_option linter.unusedVariables false
set_option linter.unusedSimpArgs false

def FieldL.of (t : ByteArray × ByteArray) : FieldL := (t.1.data.toList, t.2.data.toList)
theorem bytesField : Tryd.prog.bytesOf 59 = 32 := by kernel_rfl
theorem cellsField : Tryd.prog.cellsOf 59 = 2 := by kernel_rfl
section
variable {H : Type} {enc : TypeId × Value → H} {w : World} {fuel : Nat} {cs : List Value} {x : DataW H × List MemPlace}
set_option maxRecDepth 100000 in
theorem open_field_sized (h : DataW.trod enc Tryd.prog w 0 (fun _ => true) true fuel 59 cs = some x) : ∃ (s t : ByteArray), cs = [.string s, .string t] ∧ ((∀ n ∈ x.1.weights Tryd.prog 59, n ≤ reachBytes) → s.size ≤ 140737488351232 ∧ t.size ≤ 140737488351232) := by
  have hl := cells_len Tryd.underlying59 h 2 cellsField
  obtain ⟨xs, n, _, hx, _, hlen, hg⟩ := DataW.trod_struct Tryd.underlying59 h
  have h0 := hg 0 _ rfl
  have h1 := hg 1 _ rfl
  have hl2 : xs.length = 2 := hlen
  have hc : Tryd.prog.cellsOf 9 = 1 := cellsStr
  match cs, hl with
  | [c0, c1], _ =>
    match xs, hl2 with
    | [a, c], _ =>
      obtain ⟨s, e0, e1, _⟩ := DataW.trod_string Tryd.underlying9 (show DataW.trod enc Tryd.prog w 0 (fun _ => true) true n 9 [c0] = some a by simpa [hc] using h0)
      obtain ⟨t, g0, g1, _⟩ := DataW.trod_string Tryd.underlying9 (show DataW.trod enc Tryd.prog w 0 (fun _ => true) true n 9 [c1] = some c by simpa [hc] using h1)
      simp at e0 g0
      subst e0 g0
      refine ⟨s, t, rfl, fun hw => ?_⟩
      have h2 := hw s.data.toList.length (by
        rw [hx, e1]
        simp [DataW.weights, Tryd.underlying59, DataW.weightsEach])
      have h3 := hw t.data.toList.length (by
        rw [hx, g1]
        simp [DataW.weights, Tryd.underlying59, DataW.weightsEach, Tryd.underlying9])
      rw [reach_is, lsize] at h2 h3
      exact ⟨h2, h3⟩
end

set_option maxRecDepth 100000 in
theorem open_fields_arg {H : Type} {enc : TypeId × Value → H} {w : World} {base : Nat} {v : Value} {d : DataW H} {p : List MemPlace} (hv : Value.okWide Tryd.prog w .any base 22 v)
    (h : DataW.Trod enc Tryd.prog w 0 (fun _ => true) true 22 v d p) (hw : ∀ n ∈ d.weights Tryd.prog 22, n ≤ reachBytes) : ∃ (ts : List FieldL), RdL LF w w.heap.size v ts ∧ (∀ t ∈ ts, t.1.length ≤ 140737488351232 ∧ t.2.length ≤ 140737488351232) ∧ ts.length * 32 ≤ 140737488351232 := by
  obtain ⟨a0, l0, c0, rfl⟩ := okWide_slice Tryd.underlying22 hv
  obtain ⟨fuel, hf⟩ := h
  rcases open_slice Tryd.underlying22 (show DataW.trod enc Tryd.prog w 0 (fun _ => true) true fuel 22 [.slice a0 l0 c0] = _ from hf) with ⟨hcs, _⟩ | ⟨a, len, cap, m, n, D, Pl, hcs, _, hl, hm, hmm, hx, hi⟩
  · simp at hcs
    obtain ⟨rfl, rfl, rfl⟩ := hcs
    exact ⟨[], RdL.nil _ _ _ _ (by omega), by simp, by simp⟩
  · simp at hcs
    obtain ⟨rfl, rfl, rfl⟩ := hcs
    simp only [Prod.mk.injEq] at hx
    obtain ⟨rfl, _⟩ := hx
    have hmc : m = c0 := by simpa using hmm
    have hM := mLen
    obtain ⟨ts, hts, hc⟩ := list_of (T := ByteArray × ByteArray) (D := fun i t => (t.1.size ≤ 140737488351232 ∧ t.2.size ≤ 140737488351232) ∧ w.cell? (a.add (i * 2)) = some (.string t.1) ∧ w.cell? ((a.add (i * 2)).add 1) = some (.string t.2)) l0 (fun i hil => by
      obtain ⟨cs', hc', ht'⟩ := hi i (by omega)
      obtain ⟨s, b, rfl, h2⟩ := open_field_sized ht'
      have hc2 : Tryd.prog.cellsOf 59 = 2 := cellsField
      rw [hc2] at hc'
      obtain ⟨_, _, hat⟩ := World.cells?_some hc'
      refine ⟨(s, b), h2 (fun n hn => hw n ?_), by simpa [Addr.add] using hat 0 (by omega), by simpa using hat 1 (by omega)⟩
      simp only [DataW.weights, Tryd.underlying22, List.mem_cons, List.mem_append]
      exact .inr (.inl (weightsAll_mem hn (List.mem_map.2 ⟨i, by simpa using hil, rfl⟩))))
    refine ⟨ts.map FieldL.of, ⟨by simp; omega, some a, c0, by simp [hts], by simp; omega, by omega, fun i hi' => ?_⟩, fun t ht => ?_, ?_⟩
    · have hil : i < ts.length := by simpa using hi'
      obtain ⟨_, c1, c2⟩ := hc i hil
      obtain ⟨b, o, sp⟩ := a
      have hsp : sp = none := by
        have := World.cell?_spot (hc 0 (by omega)).2.1
        rw [Nat.zero_mul] at this
        simpa [Addr.add] using this
      subst hsp
      have e : (⟨b, o, none⟩ : Addr).add (i * 2) = ⟨b, o + i * 2, none⟩ := by by_cases hz : i * 2 = 0 <;> simp [Addr.add, hz]
      rw [e] at c1 c2
      have e2 : (⟨b, o + i * 2, none⟩ : Addr).add 1 = ⟨b, o + i * 2 + 1, none⟩ := by simp [Addr.add]
      rw [e2] at c2
      refine ⟨b, o, rfl, cell_lt'' c1, fun j u hu => ?_⟩
      rcases j with _ | _ | j
      · simp [LF, FieldL.of] at hu; subst hu; exact c1
      · simp [LF, FieldL.of] at hu; subst hu; exact c2
      · simp [LF] at hu
    · obtain ⟨x, hx, rfl⟩ := List.mem_map.1 ht
      obtain ⟨i, hi', rfl⟩ := List.getElem_of_mem hx
      have := (hc i hi').1
      exact this
    · rw [List.length_map, hts]
      have h1 := hw _ (by simp only [DataW.weights, Tryd.underlying22, List.mem_cons]; exact .inl rfl)
      rw [reach_is, bytesField] at h1
      simp at h1
      have : l0 ≤ m := by omega
      omega


set_option maxRecDepth 100000 in
/-- A field that comes in. -/
theorem open_field_arg {H : Type} {enc : TypeId × Value → H} {w : World} {base : Nat} {v : Value} {d : DataW H} {p : List MemPlace} (hv : Value.okWide Tryd.prog w .any base 59 v)
    (h : DataW.Trod enc Tryd.prog w 0 (fun _ => true) true 59 v d p) (hw : ∀ n ∈ d.weights Tryd.prog 59, n ≤ reachBytes) : ∃ (s t : ByteArray), v = .agg #[.string s, .string t] ∧ s.size ≤ 140737488351232 ∧ t.size ≤ 140737488351232 := by
  obtain ⟨cs, rfl, hs⟩ := okWide_struct Tryd.underlying59 hv
  obtain ⟨fuel, hf⟩ := h
  have hf' : DataW.trod enc Tryd.prog w 0 (fun _ => true) true fuel 59 cs.toList = some (d, p) := by simpa [Value.cells] using hf
  obtain ⟨s, t, e, hz⟩ := open_field_sized hf'
  obtain ⟨h1, h2⟩ := hz hw
  refine ⟨s, t, ?_, h1, h2⟩
  congr 1
  apply Array.toList_inj.1
  exact e

end Go.Proofs.YtiigkacmahecaaaDoor
