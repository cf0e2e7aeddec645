/-
  Tags and lists of tags that come in as arguments: opened, with what the reach says of their texts.
-/
import Derived.Test.YtnipbhmacfnjfaaDoorOpenA
import Derived.Test.YtnipbhmacfnjfaaDoorTagS
import Derived.SizedLaws
import Derived.OpenShut
namespace Go.Proofs.YtnipbhmacfnjfaaDoor
open Go.ChangeShapes Go.WideShapes Go.RowKit Go.Deep
set_option linter.unusedVariables false
set_option linter.unusedSimpArgs false

theorem weightsAll_mem {H : Type} {P : Program} {e : TypeId} {d : DataW H} {n : Nat} (hn : n ∈ d.weights P e) : ∀ {l : List (DataW H)}, d ∈ l → n ∈ DataW.weightsAll P e l
  | c :: l, h => by
    simp only [DataW.weightsAll, List.mem_append]
    rcases List.mem_cons.1 h with rfl | h
    · exact .inl hn
    · exact .inr (weightsAll_mem hn h)
theorem reach_is : reachBytes = 140737488351232 := by decide
theorem bytesTag : Tryd.prog.bytesOf 23 = 24 := by kernel_rfl
section
variable {H : Type} {enc : TypeId × Value → H} {w : World} {fuel : Nat} {cs : List Value} {x : DataW H × List MemPlace}
theorem open_tag_sized (h : DataW.trod enc Tryd.prog w 0 (fun _ => true) true fuel 23 cs = some x) : ∃ (s : ByteArray) (b : Bool), cs = [.string s, .bool b] ∧ s.size ≤ maxLen ∧ ((∀ n ∈ x.1.weights Tryd.prog 23, n ≤ reachBytes) → s.size ≤ 140737488351232) := by
  obtain ⟨s, b, rfl, hs⟩ := open_tag h
  refine ⟨s, b, rfl, hs, fun hw => ?_⟩
  obtain ⟨xs, n, _, hx, _, hlen, hg⟩ := DataW.trod_struct Tryd.underlying23 h
  have h0 := hg 0 _ rfl
  have hl : xs.length = 2 := hlen
  match xs, hl with
  | [a, c], _ =>
    obtain ⟨s', e0, e1, _⟩ := DataW.trod_string Tryd.underlying9 (show DataW.trod enc Tryd.prog w 0 (fun _ => true) true n 9 [.string s] = some a from by
      have hc : Tryd.prog.cellsOf 9 = 1 := cellsStr
      simpa [hc] using h0)
    simp at e0
    subst e0
    have := hw s.data.toList.length (by
      rw [hx, e1]
      simp [DataW.weights, Tryd.underlying23, DataW.weightsEach])
    rw [reach_is, lsize] at this
    exact this
end
set_option maxRecDepth 100000 in
theorem open_tags_arg {H : Type} {enc : TypeId × Value → H} {w : World} {base : Nat} {v : Value} {d : DataW H} {p : List MemPlace} (hv : Value.okWide Tryd.prog w .any base 30 v)
    (h : DataW.Trod enc Tryd.prog w 0 (fun _ => true) true 30 v d p) (hw : ∀ n ∈ d.weights Tryd.prog 30, n ≤ reachBytes) : ∃ (ts : List TagL), RdL LT w w.heap.size v ts ∧ ∀ t ∈ ts, t.1.length ≤ 140737488351232 := by
  obtain ⟨a0, l0, c0, rfl⟩ := okWide_slice Tryd.underlying30 hv
  obtain ⟨fuel, hf⟩ := h
  rcases open_slice Tryd.underlying30 (show DataW.trod enc Tryd.prog w 0 (fun _ => true) true fuel 30 [.slice a0 l0 c0] = _ from hf) with ⟨hcs, _⟩ | ⟨a, len, cap, m, n, D, Pl, hcs, _, hl, hm, hmm, hx, hi⟩
  · simp at hcs
    obtain ⟨rfl, rfl, rfl⟩ := hcs
    exact ⟨[], RdL.nil _ _ _ _ (by omega), by simp⟩
  · simp at hcs
    obtain ⟨rfl, rfl, rfl⟩ := hcs
    simp only [Prod.mk.injEq] at hx
    obtain ⟨rfl, _⟩ := hx
    have hmc : m = c0 := by simpa using hmm
    have hM := mLen
    obtain ⟨ts, hts, hc⟩ := list_of (T := Tag) (D := fun i t => t.1.size ≤ 140737488351232 ∧ w.cell? (a.add (i * 2)) = some (.string t.1) ∧ w.cell? ((a.add (i * 2)).add 1) = some (.bool t.2)) l0 (fun i hil => by
      obtain ⟨cs', hc', ht'⟩ := hi i (by omega)
      obtain ⟨s, b, rfl, h1, h2⟩ := open_tag_sized ht'
      have hc2 : Tryd.prog.cellsOf 23 = 2 := cellsTag
      rw [hc2] at hc'
      obtain ⟨_, _, hat⟩ := World.cells?_some hc'
      refine ⟨(s, b), h2 (fun n hn => hw n ?_), by simpa [Addr.add] using hat 0 (by omega), by simpa using hat 1 (by omega)⟩
      simp only [DataW.weights, Tryd.underlying30, List.mem_cons, List.mem_append]
      exact .inr (.inl (weightsAll_mem hn (List.mem_map.2 ⟨i, by simpa using hil, rfl⟩))))
    refine ⟨ts.map TagL.of, ⟨by simp; omega, some a, c0, by simp [hts], by simp; omega, by omega, fun i hi' => ?_⟩, fun t ht => ?_⟩
    · have hil : i < ts.length := by simpa using hi'
      obtain ⟨_, c1, c2⟩ := hc i hil
      obtain ⟨b, o, sp⟩ := a
      have hsp : sp = none := by
        have := World.cell?_spot (hc 0 (by omega)).2.1
        rw [Nat.zero_mul] at this
        simpa [Addr.add] using this
      subst hsp
      have e : (⟨b, o, none⟩ : Addr).add (i * 2) = ⟨b, o + i * 2, none⟩ := by by_cases hz : i * 2 = 0 <;> simp [Addr.add, hz]
      rw [e] at c1 c2
      have e2 : (⟨b, o + i * 2, none⟩ : Addr).add 1 = ⟨b, o + i * 2 + 1, none⟩ := by simp [Addr.add]
      rw [e2] at c2
      refine ⟨b, o, rfl, cell_lt'' c1, fun j u hu => ?_⟩
      rcases j with _ | _ | j
      · simp [LT, TagL.of] at hu; subst hu; exact c1
      · simp [LT, TagL.of] at hu; subst hu; exact c2
      · simp [LT] at hu
    · obtain ⟨x, hx, rfl⟩ := List.mem_map.1 ht
      obtain ⟨i, hi', rfl⟩ := List.getElem_of_mem hx
      have := (hc i hi').1
      simpa [TagL.of, lsize] using this
end Go.Proofs.YtnipbhmacfnjfaaDoor
