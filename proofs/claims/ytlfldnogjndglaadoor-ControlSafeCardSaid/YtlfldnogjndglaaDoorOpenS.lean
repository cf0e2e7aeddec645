/-
  Lists of strings, rules and three numbers that come in as arguments: opened, with what the reach says of them.
-/
import Derived.Test.YtlfldnogjndglaaDoorTagS
import Derived.ProofKit
import Derived.Deep.Slices
import Derived.Lib.SmallJoins
import Derived.SizedLaws
import Derived.OpenShut
import Derived.Laws.IdiomArrays
namespace Go.Proofs.YtlfldnogjndglaaDoor
open Go.ChangeShapes Go.WideShapes Go.RowKit Go.Deep
set_option linter.unusedVariables false
set_option linter.unusedSimpArgs false

namespace OpS
theorem cellsStr : Tryd.prog.cellsOf 9 = 1 := by kernel_rfl
theorem mLen : maxLen ≤ 9223372036854775807 := by decide
theorem list_of {T : Type} {D : Nat → T → Prop} (n : Nat) (h : ∀ i, i < n → ∃ t, D i t) : ∃ l : List T, l.length = n ∧ ∀ i (hi : i < l.length), D i l[i] := by
  induction n with
  | zero => exact ⟨[], rfl, fun i hi => by simp at hi⟩
  | succ n ih =>
    obtain ⟨l, hl, hd⟩ := ih (fun i hi => h i (by omega))
    obtain ⟨t, ht⟩ := h n (by omega)
    refine ⟨l ++ [t], by simp [hl], fun i hi => ?_⟩
    by_cases hlt : i < l.length
    · rw [List.getElem_append_left hlt]; exact hd i hlt
    · have : i = l.length := by simp at hi; omega
      subst this
      rw [List.getElem_append_right (Nat.le_refl _)]
      simp only [Nat.sub_self, List.getElem_cons_zero]
      rw [hl]; exact ht
theorem cell_lt {w : World} {a : Addr} {v : Value} (h : w.cell? a = some v) : a.block < w.heap.size := World.block_lt_of_cell? _ _ h
theorem weightsAll_mem {H : Type} {P : Program} {e : TypeId} {d : DataW H} {n : Nat} (hn : n ∈ d.weights P e) : ∀ {l : List (DataW H)}, d ∈ l → n ∈ DataW.weightsAll P e l
  | c :: l, h => by
    simp only [DataW.weightsAll, List.mem_append]
    rcases List.mem_cons.1 h with rfl | h
    · exact .inl hn
    · exact .inr (weightsAll_mem hn h)
theorem reach_is : reachBytes = 140737488351232 := by decide
end OpS
open OpS
set_option maxRecDepth 100000 in
/-- A list of strings that comes in. -/
theorem open_strs_arg {H : Type} {enc : TypeId × Value → H} {w : World} {base : Nat} {v : Value} {d : DataW H} {p : List MemPlace} (hv : Value.okWide Tryd.prog w .any base 22 v)
    (h : DataW.Trod enc Tryd.prog w 0 (fun _ => true) true 22 v d p) (hw : ∀ n ∈ d.weights Tryd.prog 22, n ≤ reachBytes) : ∃ (ls : List Bs), RdL LS w w.heap.size v ls ∧ ∀ s ∈ ls, s.length ≤ 140737488351232 := by
  obtain ⟨a0, l0, c0, rfl⟩ := okWide_slice Tryd.underlying22 hv
  obtain ⟨fuel, hf⟩ := h
  rcases open_slice Tryd.underlying22 (show DataW.trod enc Tryd.prog w 0 (fun _ => true) true fuel 22 [.slice a0 l0 c0] = _ from hf) with ⟨hcs, _⟩ | ⟨a, len, cap, m, n, D, Pl, hcs, _, hl, hm, hmm, hx, hi⟩
  · simp at hcs
    obtain ⟨rfl, rfl, rfl⟩ := hcs
    exact ⟨[], RdL.nil _ _ _ _ (by omega), by simp⟩
  · simp at hcs
    obtain ⟨rfl, rfl, rfl⟩ := hcs
    simp only [Prod.mk.injEq] at hx
    obtain ⟨rfl, _⟩ := hx
    have hmc : m = c0 := by simpa using hmm
    have hM := mLen
    obtain ⟨ts, hts, hc⟩ := list_of (T := ByteArray) (D := fun i t => t.size ≤ 140737488351232 ∧ w.cell? (a.add (i * 1)) = some (.string t)) l0 (fun i hil => by
      obtain ⟨cs', hc', ht'⟩ := hi i (by omega)
      have hc2 : Tryd.prog.cellsOf 9 = 1 := cellsStr
      rw [hc2] at hc'
      obtain ⟨s, e0, e1, _⟩ := DataW.trod_string Tryd.underlying9 ht'
      subst e0
      obtain ⟨_, _, hat⟩ := World.cells?_some hc'
      refine ⟨s, ?_, by simpa [Addr.add] using hat 0 (by omega)⟩
      have := hw s.data.toList.length (by
        simp only [DataW.weights, Tryd.underlying22, List.mem_cons, List.mem_append]
        refine .inr (.inl (weightsAll_mem (d := D i) ?_ (List.mem_map.2 ⟨i, by simpa using hil, rfl⟩)))
        rw [(Prod.mk.inj e1).1]
        simp [DataW.weights, Tryd.underlying9])
      rw [reach_is, lsize] at this
      exact this)
    refine ⟨ts.map (fun t => t.data.toList), ⟨by simp; omega, some a, c0, by simp [hts], by simp; omega, by omega, fun i hi' => ?_⟩, fun t ht => ?_⟩
    · have hil : i < ts.length := by simpa using hi'
      obtain ⟨_, c1⟩ := hc i hil
      obtain ⟨b, o, sp⟩ := a
      have hsp : sp = none := by
        have := World.cell?_spot (hc 0 (by omega)).2
        rw [Nat.zero_mul] at this
        simpa [Addr.add] using this
      subst hsp
      have e : (⟨b, o, none⟩ : Addr).add (i * 1) = ⟨b, o + i, none⟩ := by by_cases hz : i = 0 <;> simp [Addr.add, hz]
      rw [e] at c1
      refine ⟨b, o, rfl, cell_lt c1, fun j u hu => ?_⟩
      rcases j with _ | j
      · simp [LS] at hu; subst hu; simpa [LS] using c1
      · simp [LS] at hu
    · obtain ⟨x, hx, rfl⟩ := List.mem_map.1 ht
      obtain ⟨i, hi', rfl⟩ := List.getElem_of_mem hx
      have := (hc i hi').1
      rw [lsize]; exact this
def inI (n : Int) : Prop := -9223372036854775808 ≤ n ∧ n ≤ 9223372036854775807
theorem wf_in {n : Int} (h : (Lit.int .i64 n).wf = true) : inI n := by
  have k0 : IntKind.i64.min = -9223372036854775808 := by decide
  have k1 : IntKind.i64.max = 9223372036854775807 := by decide
  simp [Lit.wf, k0, k1] at h
  exact ⟨h.1, h.2⟩
theorem cellsI64S : Tryd.prog.cellsOf 2 = 1 := by kernel_rfl
theorem cellsBoolS : Tryd.prog.cellsOf 4 = 1 := by kernel_rfl
end Go.Proofs.YtlfldnogjndglaaDoor
