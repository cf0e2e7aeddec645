/-
  What comes in, opened cell by cell: tags, lists of strings, spans, what is known of a version.
-/
import Derived.Test.YtmelcndflllgmaaDoorStrB
import Derived.ProofKit
import Derived.Deep.Slices
import Derived.Lib.SmallJoins
namespace Go.Proofs.YtmelcndflllgmaaDoor
open Go.ChangeShapes Go.WideShapes Go.RowKit Go.Deep
set_option linter.unusedVariables false
set_option linter.unusedSimpArgs false

section
variable {H : Type} {enc : TypeId × Value → H} {w : World} {fuel : Nat} {cs : List Value} {x : DataW H × List MemPlace}

theorem field_of {t : TypeId} {fs : Array Field} (ht : Tryd.prog.underlying t = some (.struct fs)) (h : DataW.trod enc Tryd.prog w 0 (fun _ => true) true fuel t cs = some x) (i : Nat) (f : Field) (hf : fs[i]? = some f) (k : Nat) (hk : Tryd.prog.cellsOf f.type = k) :
    ∃ n y, DataW.trod enc Tryd.prog w 0 (fun _ => true) true n f.type ((cs.drop f.offset).take k) = some y := by
  obtain ⟨xs, n, _, _, _, hlen, hg⟩ := DataW.trod_struct ht h
  have h1 := hg i f hf
  have hi : i < xs.length := by rw [hlen]; exact (Array.getElem?_eq_some_iff.1 hf).1
  rw [List.getElem?_eq_getElem hi, hk] at h1
  exact ⟨n, _, h1⟩
theorem cells_len {t : TypeId} {fs : Array Field} (ht : Tryd.prog.underlying t = some (.struct fs)) (h : DataW.trod enc Tryd.prog w 0 (fun _ => true) true fuel t cs = some x) (k : Nat) (hk : Tryd.prog.cellsOf t = k) : cs.length = k := by
  obtain ⟨xs, n, _, _, hl, _, _⟩ := DataW.trod_struct ht h
  rw [hl, hk]

theorem cellsStr : Tryd.prog.cellsOf 9 = 1 := by kernel_rfl
theorem cellsBool : Tryd.prog.cellsOf 4 = 1 := by kernel_rfl
theorem cellsI64 : Tryd.prog.cellsOf 2 = 1 := by kernel_rfl
theorem cellsTag : Tryd.prog.cellsOf 23 = 2 := by kernel_rfl
theorem cellsStrs : Tryd.prog.cellsOf 24 = 1 := by kernel_rfl
theorem cellsMeta : Tryd.prog.cellsOf 26 = 11 := by kernel_rfl
theorem mLen : maxLen ≤ 9223372036854775807 := by decide

theorem open_tag (h : DataW.trod enc Tryd.prog w 0 (fun _ => true) true fuel 23 cs = some x) : ∃ (s : ByteArray) (b : Bool), cs = [.string s, .bool b] ∧ s.size ≤ 9223372036854775807 := by
  have hl := cells_len Tryd.underlying23 h 2 cellsTag
  obtain ⟨n0, y0, h0⟩ := field_of Tryd.underlying23 h 0 _ rfl 1 cellsStr
  obtain ⟨n1, y1, h1⟩ := field_of Tryd.underlying23 h 1 _ rfl 1 cellsBool
  match cs, hl with
  | [c0, c1], _ =>
    obtain ⟨s, e0, _, hs⟩ := DataW.trod_string Tryd.underlying9 h0
    obtain ⟨b, e1, _⟩ := DataW.trod_bool Tryd.underlying4 h1
    simp at e0 e1
    subst e0 e1
    exact ⟨s, b, rfl, Nat.le_trans hs mLen⟩

theorem list_of {T : Type} {D : Nat → T → Prop} (n : Nat) (h : ∀ i, i < n → ∃ t, D i t) : ∃ l : List T, l.length = n ∧ ∀ i (hi : i < l.length), D i l[i] := by
  induction n with
  | zero => exact ⟨[], rfl, fun i hi => by simp at hi⟩
  | succ n ih =>
    obtain ⟨l, hl, hd⟩ := ih (fun i hi => h i (by omega))
    obtain ⟨t, ht⟩ := h n (by omega)
    refine ⟨l ++ [t], by simp [hl], fun i hi => ?_⟩
    by_cases hin : i < l.length
    · rw [List.getElem_append_left hin]; exact hd i hin
    · have : i = n := by simp [hl] at hi; omega
      subst this
      rw [List.getElem_append_right (by omega)]
      simpa [hl] using ht

theorem open_strs (h : DataW.trod enc Tryd.prog w 0 (fun _ => true) true fuel 24 cs = some x) : ∃ (v : Value) (ks : List ByteArray), cs = [v] ∧ RdStrs w w.heap.size v ks := by
  rcases open_slice1 Tryd.underlying24 cellsStr h with ⟨hcs, _⟩ | ⟨a, len, cap, m, n, V, D, Pl, hcs, _, hl, hm, hmm, _, hi⟩
  · exact ⟨_, [], hcs, RdStrs.nil _ _⟩
  · have hmc : m = cap := by simpa using hmm
    have hM := mLen
    obtain ⟨ks, hts, hc⟩ := list_of (T := ByteArray) (D := fun i s => s.size ≤ maxLen ∧ w.cell? (a.add i) = some (.string s)) len (fun i hil => by
      obtain ⟨hc', ht'⟩ := hi i (by omega)
      obtain ⟨s, e0, _, hs⟩ := DataW.trod_string Tryd.underlying9 ht'
      simp at e0
      exact ⟨s, hs, by rw [hc', e0]⟩)
    refine ⟨_, ks, hcs, by omega, fun t ht => ?_, some a, cap, by rw [hts], by omega, by omega, fun i hil => ?_⟩
    · obtain ⟨i, hi', rfl⟩ := List.getElem_of_mem ht
      exact Nat.le_trans (hc i hi').1 hM
    · have c0 := (hc i hil).2
      obtain ⟨b, o, sp⟩ := a
      have hsp : sp = none := by
        have h00 := (hc 0 (by omega)).2
        simpa [Addr.add] using World.cell?_spot h00
      subst hsp
      have hlt := cell_lt'' c0
      simp only [add_plain] at c0 hlt
      exact ⟨b, o, rfl, by simpa using hlt, c0⟩

set_option maxRecDepth 100000 in
theorem open_meta (h : DataW.trod enc Tryd.prog w 0 (fun _ => true) true fuel 26 cs = some x) :
    ∃ (mt : ByteArray) (mk : Bool) (md ln hv fr wh er : Int) (kv : Value) (tn : ByteArray) (kp : Bool) (ks : List ByteArray),
      cs = [.string mt, .bool mk, .int .i64 md, .int .i64 ln, .int .i64 hv, .int .i64 fr, .int .i64 wh, .int .i64 er, kv, .string tn, .bool kp] ∧ mt.size ≤ 9223372036854775807 ∧ tn.size ≤ 9223372036854775807 ∧ RdStrs w w.heap.size kv ks := by
  have hl := cells_len Tryd.underlying26 h 11 cellsMeta
  obtain ⟨n0, y0, h0⟩ := field_of Tryd.underlying26 h 0 _ rfl 2 cellsTag
  obtain ⟨n1, y1, h1⟩ := field_of Tryd.underlying26 h 1 _ rfl 1 cellsI64
  obtain ⟨n2, y2, h2⟩ := field_of Tryd.underlying26 h 2 _ rfl 1 cellsI64
  obtain ⟨n3, y3, h3⟩ := field_of Tryd.underlying26 h 3 _ rfl 1 cellsI64
  obtain ⟨n4, y4, h4⟩ := field_of Tryd.underlying26 h 4 _ rfl 1 cellsI64
  obtain ⟨n5, y5, h5⟩ := field_of Tryd.underlying26 h 5 _ rfl 1 cellsI64
  obtain ⟨n6, y6, h6⟩ := field_of Tryd.underlying26 h 6 _ rfl 1 cellsI64
  obtain ⟨n7, y7, h7⟩ := field_of Tryd.underlying26 h 7 _ rfl 1 cellsStrs
  obtain ⟨n8, y8, h8⟩ := field_of Tryd.underlying26 h 8 _ rfl 1 cellsStr
  obtain ⟨n9, y9, h9⟩ := field_of Tryd.underlying26 h 9 _ rfl 1 cellsBool
  match cs, hl with
  | [c0, c1, c2, c3, c4, c5, c6, c7, c8, c9, c10], _ =>
    obtain ⟨mt, mk, e0, w0⟩ := open_tag h0
    obtain ⟨md, e1, _, _⟩ := DataW.trod_int Tryd.underlying2 h1
    obtain ⟨ln, e2, _, _⟩ := DataW.trod_int Tryd.underlying2 h2
    obtain ⟨hv, e3, _, _⟩ := DataW.trod_int Tryd.underlying2 h3
    obtain ⟨fr, e4, _, _⟩ := DataW.trod_int Tryd.underlying2 h4
    obtain ⟨wh, e5, _, _⟩ := DataW.trod_int Tryd.underlying2 h5
    obtain ⟨er, e6, _, _⟩ := DataW.trod_int Tryd.underlying2 h6
    obtain ⟨kv, ks, e7, w7⟩ := open_strs h7
    obtain ⟨tn, e8, _, w8⟩ := DataW.trod_string Tryd.underlying9 h8
    obtain ⟨kp, e9, _⟩ := DataW.trod_bool Tryd.underlying4 h9
    simp at e0 e1 e2 e3 e4 e5 e6 e7 e8 e9
    obtain ⟨rfl, rfl⟩ := e0
    subst e1 e2 e3 e4 e5 e6 e7 e8 e9
    exact ⟨mt, mk, md, ln, hv, fr, wh, er, _, tn, kp, ks, rfl, w0, Nat.le_trans w8 mLen, w7⟩
end

set_option maxRecDepth 100000 in
/-- A struct that comes in by value: its cells. -/
theorem open_struct {H : Type} {enc : TypeId × Value → H} {w : World} {base : Nat} {t : TypeId} {fs : Array Field} {v : Value} {d : DataW H} {p : List MemPlace} (ht : Tryd.prog.underlying t = some (.struct fs)) (hv : Value.okWide Tryd.prog w .any base t v)
    (h : DataW.Trod enc Tryd.prog w 0 (fun _ => true) true t v d p) : ∃ (cs : List Value) (fuel : Nat) (x : DataW H × List MemPlace), v = .agg cs.toArray ∧ DataW.trod enc Tryd.prog w 0 (fun _ => true) true fuel t cs = some x := by
  obtain ⟨cs, rfl, _⟩ := okWide_struct ht hv
  obtain ⟨fuel, hf⟩ := h
  exact ⟨cs.toList, fuel, _, by simp, by simpa [Value.cells] using hf⟩
end Go.Proofs.YtmelcndflllgmaaDoor
