/-
  Merged: OpenA, OpenC, OpnS, OpnZ, OpenM.
-/
import Derived.Test.YtfcbmajogmojbaaGreatDoorGrT
import Derived.ProofKit
import Derived.Deep.Slices
import Derived.Lib.SmallJoins
import Derived.OpenShut
import Derived.SizedLaws
import Derived.Test.YtfcbmajogmojbaaGreatDoorOwnL
import Derived.Test.YtfcbmajogmojbaaGreatDoorRngA
import Derived.Test.YtfcbmajogmojbaaGreatDoorGrTs
import Derived.Test.YtfcbmajogmojbaaGreatDoorGrS
namespace Go.Proofs.YtfcbmajogmojbaaGreatDoor
open Go.ChangeShapes Go.WideShapes Go.RowKit Go.Deep

section
variable {H : Type} {enc : TypeId × Value → H} {w : World} {fuel : Nat} {cs : List Value} {x : DataW H × List MemPlace}

theorem field_of {t : TypeId} {fs : Array Field} (ht : Tryz.prog.underlying t = some (.struct fs)) (h : DataW.trod enc Tryz.prog w 0 (fun _ => true) true fuel t cs = some x) (i : Nat) (f : Field) (hf : fs[i]? = some f) (k : Nat) (hk : Tryz.prog.cellsOf f.type = k) :
    ∃ n y, DataW.trod enc Tryz.prog w 0 (fun _ => true) true n f.type ((cs.drop f.offset).take k) = some y := by
  obtain ⟨xs, n, _, _, _, hlen, hg⟩ := DataW.trod_struct ht h
  have h1 := hg i f hf
  have hi : i < xs.length := by rw [hlen]; exact (Array.getElem?_eq_some_iff.1 hf).1
  rw [List.getElem?_eq_getElem hi, hk] at h1
  exact ⟨n, _, h1⟩
theorem cells_len {t : TypeId} {fs : Array Field} (ht : Tryz.prog.underlying t = some (.struct fs)) (h : DataW.trod enc Tryz.prog w 0 (fun _ => true) true fuel t cs = some x) (k : Nat) (hk : Tryz.prog.cellsOf t = k) : cs.length = k := by
  obtain ⟨xs, n, _, _, hl, _, _⟩ := DataW.trod_struct ht h
  rw [hl, hk]

theorem cellsStr : Tryz.prog.cellsOf 9 = 1 := by kernel_rfl
theorem cellsBool : Tryz.prog.cellsOf 4 = 1 := by kernel_rfl
theorem cellsI64 : Tryz.prog.cellsOf 2 = 1 := by kernel_rfl
theorem cellsTag : Tryz.prog.cellsOf 25 = 2 := by kernel_rfl
theorem cellsTags : Tryz.prog.cellsOf 23 = 1 := by kernel_rfl
theorem mLen : maxLen ≤ 9223372036854775807 := by decide

theorem open_tag (h : DataW.trod enc Tryz.prog w 0 (fun _ => true) true fuel 25 cs = some x) : ∃ (s : ByteArray) (b : Bool), cs = [.string s, .bool b] ∧ s.size ≤ maxLen := by
  have hl := cells_len Tryz.underlying25 h 2 cellsTag
  obtain ⟨n0, y0, h0⟩ := field_of Tryz.underlying25 h 0 _ rfl 1 cellsStr
  obtain ⟨n1, y1, h1⟩ := field_of Tryz.underlying25 h 1 _ rfl 1 cellsBool
  match cs, hl with
  | [c0, c1], _ =>
    obtain ⟨s, e0, _, hs⟩ := DataW.trod_string Tryz.underlying9 h0
    obtain ⟨b, e1, _⟩ := DataW.trod_bool Tryz.underlying4 h1
    simp at e0 e1
    subst e0 e1
    exact ⟨s, b, rfl, hs⟩

theorem cell_at {w : World} {a : Addr} {v : Value} (h : w.cell? a = some v) : a = ⟨a.block, a.off, none⟩ := by
  obtain ⟨b, o, sp⟩ := a
  have : sp = none := by simpa using World.cell?_spot h
  subst this; rfl

theorem list_of {T : Type} {D : Nat → T → Prop} (n : Nat) (h : ∀ i, i < n → ∃ t, D i t) : ∃ l : List T, l.length = n ∧ ∀ i (hi : i < l.length), D i l[i] := by
  induction n with
  | zero => exact ⟨[], rfl, fun i hi => by simp at hi⟩
  | succ n ih =>
    obtain ⟨l, hl, hd⟩ := ih (fun i hi => h i (by omega))
    obtain ⟨t, ht⟩ := h n (by omega)
    refine ⟨l ++ [t], by simp [hl], fun i hi => ?_⟩
    by_cases hin : i < l.length
    · rw [List.getElem_append_left hin]; exact hd i hin
    · have : i = n := by simp [hl] at hi; omega
      subst this
      rw [List.getElem_append_right (by omega)]
      simpa [hl] using ht

theorem open_tags (h : DataW.trod enc Tryz.prog w 0 (fun _ => true) true fuel 23 cs = some x) : ∃ (v : Value) (ts : List Tag), cs = [v] ∧ RdTags w w.heap.size v ts := by
  rcases open_slice Tryz.underlying23 h with ⟨hcs, _⟩ | ⟨a, len, cap, m, n, D, Pl, hcs, _, hl, hm, hmm, _, hi⟩
  · exact ⟨_, [], hcs, by simp, by simp, none, 0, rfl, fun i hi => by simp at hi⟩
  · have hmc : m = cap := by simpa using hmm
    have hlm : len ≤ maxLen := by omega
    have hM := mLen
    obtain ⟨ts, hts, hc⟩ := list_of (T := Tag) (D := fun i t => t.1.size ≤ maxLen ∧ w.cell? (a.add (i * 2)) = some (.string t.1) ∧ w.cell? ((a.add (i * 2)).add 1) = some (.bool t.2)) len (fun i hil => by
      obtain ⟨cs', hc', ht'⟩ := hi i (by omega)
      rw [cellsTag] at hc'
      obtain ⟨s, b, rfl, hs⟩ := open_tag ht'
      obtain ⟨_, _, hat⟩ := World.cells?_some hc'
      exact ⟨(s, b), hs, by have := hat 0 (by simp); simpa [Addr.add] using this, by have := hat 1 (by simp); simpa using this⟩)
    refine ⟨_, ts, hcs, by omega, fun t ht => ?_, some a, cap, by rw [hts], fun i hil => ?_⟩
    · obtain ⟨i, hi', rfl⟩ := List.getElem_of_mem ht
      exact Nat.le_trans (hc i hi').1 hM
    · obtain ⟨_, c0, c1⟩ := hc i hil
      have e := cell_at c1
      obtain ⟨b, o, sp⟩ := a
      have hsp : sp = none := by
        have h00 := (hc 0 (by omega)).2.1
        simpa [Addr.add] using World.cell?_spot h00
      subst hsp
      have hlt := cell_lt'' c0
      simp only [add_plain] at c0 c1 hlt
      exact ⟨b, o, rfl, by simpa using hlt, c0, c1⟩

end
end Go.Proofs.YtfcbmajogmojbaaGreatDoor
namespace Go.Proofs.YtfcbmajogmojbaaGreatDoor
open Go.ChangeShapes Go.WideShapes Go.RowKit Go.Deep

section
variable {H : Type} {enc : TypeId × Value → H} {w : World} {fuel : Nat} {cs : List Value} {x : DataW H × List MemPlace}
theorem cellsCond : Tryz.prog.cellsOf 27 = 8 := by kernel_rfl
theorem cellsReq : Tryz.prog.cellsOf 29 = 11 := by kernel_rfl
theorem cellsMeta : Tryz.prog.cellsOf 32 = 11 := by kernel_rfl
theorem cellsSpecs : Tryz.prog.cellsOf 22 = 1 := by kernel_rfl
theorem cellsStrs : Tryz.prog.cellsOf 30 = 1 := by kernel_rfl

theorem open_cond (h : DataW.trod enc Tryz.prog w 0 (fun _ => true) true fuel 27 cs = some x) :
    ∃ (m n : Value) (ts us : List Tag) (am an : Bool) (si un : Int) (rt : ByteArray) (rk : Bool), cs = [m, n, .bool am, .bool an, .int .i64 si, .int .i64 un, .string rt, .bool rk] ∧ RdTags w w.heap.size m ts ∧ RdTags w w.heap.size n us ∧
      rt.size ≤ maxLen ∧ (Lit.int .i64 si).wf = true ∧ (Lit.int .i64 un).wf = true := by
  have hl := cells_len Tryz.underlying27 h 8 cellsCond
  obtain ⟨n0, y0, h0⟩ := field_of Tryz.underlying27 h 0 _ rfl 1 cellsTags
  obtain ⟨n1, y1, h1⟩ := field_of Tryz.underlying27 h 1 _ rfl 1 cellsTags
  obtain ⟨n2, y2, h2⟩ := field_of Tryz.underlying27 h 2 _ rfl 1 cellsBool
  obtain ⟨n3, y3, h3⟩ := field_of Tryz.underlying27 h 3 _ rfl 1 cellsBool
  obtain ⟨n4, y4, h4⟩ := field_of Tryz.underlying27 h 4 _ rfl 1 cellsI64
  obtain ⟨n5, y5, h5⟩ := field_of Tryz.underlying27 h 5 _ rfl 1 cellsI64
  obtain ⟨n6, y6, h6⟩ := field_of Tryz.underlying27 h 6 _ rfl 2 cellsTag
  match cs, hl with
  | [c0, c1, c2, c3, c4, c5, c6, c7], _ =>
    obtain ⟨m, ts, e0, r0⟩ := open_tags h0
    obtain ⟨n, us, e1, r1⟩ := open_tags h1
    obtain ⟨am, e2, _⟩ := DataW.trod_bool Tryz.underlying4 h2
    obtain ⟨an, e3, _⟩ := DataW.trod_bool Tryz.underlying4 h3
    obtain ⟨si, e4, _, w4⟩ := DataW.trod_int Tryz.underlying2 h4
    obtain ⟨un, e5, _, w5⟩ := DataW.trod_int Tryz.underlying2 h5
    obtain ⟨rt, rk, e6, w6⟩ := open_tag h6
    simp at e0 e1 e2 e3 e4 e5 e6
    obtain ⟨e6, e7⟩ := e6
    subst e0 e1 e2 e3 e4 e5 e6 e7
    exact ⟨_, _, ts, us, am, an, si, un, rt, rk, rfl, r0, r1, w6, w4, w5⟩

theorem open_any_slice {t e : TypeId} (ht : Tryz.prog.underlying t = some (.slice e)) (h : DataW.trod enc Tryz.prog w 0 (fun _ => true) true fuel t cs = some x) : ∃ (a : Option Addr) (l c : Nat), cs = [.slice a l c] ∧ l ≤ maxLen := by
  rcases open_slice ht h with ⟨hcs, _⟩ | ⟨a, len, cap, m, n, D, Pl, hcs, _, hl, hm, _⟩
  · exact ⟨none, 0, 0, hcs, by decide⟩
  · exact ⟨some a, len, cap, hcs, by omega⟩

theorem open_req (h : DataW.trod enc Tryz.prog w 0 (fun _ => true) true fuel 29 cs = some x) :
    ∃ (hd : Bool) (ob : ByteArray) (sa : Option Addr) (sn sc : Nat) (m n : Value) (ts us : List Tag) (am an : Bool) (si un : Int) (rt : ByteArray) (rk : Bool),
      cs = [.bool hd, .string ob, .slice sa sn sc, m, n, .bool am, .bool an, .int .i64 si, .int .i64 un, .string rt, .bool rk] ∧ RdTags w w.heap.size m ts ∧ RdTags w w.heap.size n us ∧ rt.size ≤ maxLen ∧ sn ≤ maxLen := by
  have hl := cells_len Tryz.underlying29 h 11 cellsReq
  obtain ⟨n0, y0, h0⟩ := field_of Tryz.underlying29 h 0 _ rfl 1 cellsBool
  obtain ⟨n1, y1, h1⟩ := field_of Tryz.underlying29 h 1 _ rfl 1 cellsStr
  obtain ⟨n2, y2, h2⟩ := field_of Tryz.underlying29 h 2 _ rfl 1 cellsSpecs
  obtain ⟨n3, y3, h3⟩ := field_of Tryz.underlying29 h 3 _ rfl 8 cellsCond
  match cs, hl with
  | [c0, c1, c2, c3, c4, c5, c6, c7, c8, c9, c10], _ =>
    obtain ⟨hd, e0, _⟩ := DataW.trod_bool Tryz.underlying4 h0
    obtain ⟨ob, e1, _, _⟩ := DataW.trod_string Tryz.underlying9 h1
    obtain ⟨sa, sn, sc, e2, w2⟩ := open_any_slice Tryz.underlying22 h2
    obtain ⟨m, n, ts, us, am, an, si, un, rt, rk, e3, r0, r1, w3, _, _⟩ := open_cond h3
    simp at e0 e1 e2 e3
    obtain ⟨rfl, rfl, rfl, rfl, rfl, rfl, rfl, rfl⟩ := e3
    subst e0 e1 e2
    exact ⟨hd, ob, sa, sn, sc, _, _, ts, us, am, an, si, un, rt, rk, rfl, r0, r1, w3, w2⟩

theorem open_meta (h : DataW.trod enc Tryz.prog w 0 (fun _ => true) true fuel 32 cs = some x) :
    ∃ (mt : ByteArray) (mk : Bool) (md ln hv fr wh er : Int) (kv : Value) (tn : ByteArray) (kp : Bool),
      cs = [.string mt, .bool mk, .int .i64 md, .int .i64 ln, .int .i64 hv, .int .i64 fr, .int .i64 wh, .int .i64 er, kv, .string tn, .bool kp] ∧ mt.size ≤ maxLen := by
  have hl := cells_len Tryz.underlying32 h 11 cellsMeta
  obtain ⟨n0, y0, h0⟩ := field_of Tryz.underlying32 h 0 _ rfl 2 cellsTag
  obtain ⟨n1, y1, h1⟩ := field_of Tryz.underlying32 h 1 _ rfl 1 cellsI64
  obtain ⟨n2, y2, h2⟩ := field_of Tryz.underlying32 h 2 _ rfl 1 cellsI64
  obtain ⟨n3, y3, h3⟩ := field_of Tryz.underlying32 h 3 _ rfl 1 cellsI64
  obtain ⟨n4, y4, h4⟩ := field_of Tryz.underlying32 h 4 _ rfl 1 cellsI64
  obtain ⟨n5, y5, h5⟩ := field_of Tryz.underlying32 h 5 _ rfl 1 cellsI64
  obtain ⟨n6, y6, h6⟩ := field_of Tryz.underlying32 h 6 _ rfl 1 cellsI64
  obtain ⟨n7, y7, h7⟩ := field_of Tryz.underlying32 h 7 _ rfl 1 cellsStrs
  obtain ⟨n8, y8, h8⟩ := field_of Tryz.underlying32 h 8 _ rfl 1 cellsStr
  obtain ⟨n9, y9, h9⟩ := field_of Tryz.underlying32 h 9 _ rfl 1 cellsBool
  match cs, hl with
  | [c0, c1, c2, c3, c4, c5, c6, c7, c8, c9, c10], _ =>
    obtain ⟨mt, mk, e0, w0⟩ := open_tag h0
    obtain ⟨md, e1, _, _⟩ := DataW.trod_int Tryz.underlying2 h1
    obtain ⟨ln, e2, _, _⟩ := DataW.trod_int Tryz.underlying2 h2
    obtain ⟨hv, e3, _, _⟩ := DataW.trod_int Tryz.underlying2 h3
    obtain ⟨fr, e4, _, _⟩ := DataW.trod_int Tryz.underlying2 h4
    obtain ⟨wh, e5, _, _⟩ := DataW.trod_int Tryz.underlying2 h5
    obtain ⟨er, e6, _, _⟩ := DataW.trod_int Tryz.underlying2 h6
    obtain ⟨tn, e8, _, _⟩ := DataW.trod_string Tryz.underlying9 h8
    obtain ⟨kp, e9, _⟩ := DataW.trod_bool Tryz.underlying4 h9
    simp at e0 e1 e2 e3 e4 e5 e6 e8 e9
    obtain ⟨rfl, rfl⟩ := e0
    subst e1 e2 e3 e4 e5 e6 e8 e9
    exact ⟨mt, mk, md, ln, hv, fr, wh, er, c8, tn, kp, rfl, w0⟩
end

set_option maxRecDepth 100000 in
/-- A struct that comes in by value: its cells. -/
theorem open_struct {H : Type} {enc : TypeId × Value → H} {w : World} {base : Nat} {t : TypeId} {fs : Array Field} {v : Value} {d : DataW H} {p : List MemPlace} (ht : Tryz.prog.underlying t = some (.struct fs)) (hv : Value.okWide Tryz.prog w .any base t v)
    (h : DataW.Trod enc Tryz.prog w 0 (fun _ => true) true t v d p) : ∃ (cs : List Value) (fuel : Nat) (x : DataW H × List MemPlace), v = .agg cs.toArray ∧ DataW.trod enc Tryz.prog w 0 (fun _ => true) true fuel t cs = some x := by
  obtain ⟨cs, rfl, _⟩ := okWide_struct ht hv
  obtain ⟨fuel, hf⟩ := h
  exact ⟨cs.toList, fuel, _, by simp, by simpa [Value.cells] using hf⟩
set_option maxRecDepth 100000 in
/-- A slice that comes in: its three parts. -/
theorem open_slice_len {H : Type} {enc : TypeId × Value → H} {w : World} {base : Nat} {t e : TypeId} {v : Value} {d : DataW H} {p : List MemPlace} (ht : Tryz.prog.underlying t = some (.slice e)) (hv : Value.okWide Tryz.prog w .any base t v)
    (h : DataW.Trod enc Tryz.prog w 0 (fun _ => true) true t v d p) : ∃ (a : Option Addr) (l c : Nat), v = .slice a l c ∧ l ≤ maxLen := by
  obtain ⟨a, l, c, rfl⟩ := okWide_slice ht hv
  obtain ⟨fuel, hf⟩ := h
  obtain ⟨a', l', c', e2, w2⟩ := open_any_slice ht (show DataW.trod enc Tryz.prog w 0 (fun _ => true) true fuel t [.slice a l c] = _ from hf)
  simp at e2
  obtain ⟨rfl, rfl, rfl⟩ := e2
  exact ⟨_, _, _, rfl, w2⟩
end Go.Proofs.YtfcbmajogmojbaaGreatDoor
namespace Go.Proofs.YtfcbmajogmojbaaGreatDoor
open Go.ChangeShapes Go.WideShapes Go.RowKit Go.Deep
set_option linter.unusedVariables false
set_option linter.unusedSimpArgs false

section
variable {H : Type} {enc : TypeId × Value → H} {w : World} {fuel : Nat} {cs : List Value} {x : DataW H × List MemPlace}
theorem field_ofU {t : TypeId} {fs : Array Field} (ht : Tryz.prog.underlying t = some (.struct fs)) (h : DataW.trod enc Tryz.prog w 0 (fun _ => true) true fuel t cs = some x) (i : Nat) (f : Field) (hf : fs[i]? = some f) (k : Nat) (hk : Tryz.prog.cellsOf f.type = k) :
    ∃ n y, DataW.trod enc Tryz.prog w 0 (fun _ => true) true n f.type ((cs.drop f.offset).take k) = some y := by
  obtain ⟨xs, n, _, _, _, hlen, hg⟩ := DataW.trod_struct ht h
  have h1 := hg i f hf
  have hi : i < xs.length := by rw [hlen]; exact (Array.getElem?_eq_some_iff.1 hf).1
  rw [List.getElem?_eq_getElem hi, hk] at h1
  exact ⟨n, _, h1⟩
theorem cells_lenU {t : TypeId} {fs : Array Field} (ht : Tryz.prog.underlying t = some (.struct fs)) (h : DataW.trod enc Tryz.prog w 0 (fun _ => true) true fuel t cs = some x) (k : Nat) (hk : Tryz.prog.cellsOf t = k) : cs.length = k := by
  obtain ⟨xs, n, _, _, hl, _, _⟩ := DataW.trod_struct ht h
  rw [hl, hk]
theorem mLenU : maxLen ≤ 9223372036854775807 := by decide
theorem cellsI64U : Tryz.prog.cellsOf 2 = 1 := by kernel_rfl
theorem list_ofU {T : Type} {D : Nat → T → Prop} (n : Nat) (h : ∀ i, i < n → ∃ t, D i t) : ∃ l : List T, l.length = n ∧ ∀ i (hi : i < l.length), D i l[i] := by
  induction n with
  | zero => exact ⟨[], rfl, fun i hi => by simp at hi⟩
  | succ n ih =>
    obtain ⟨l, hl, hd⟩ := ih (fun i hi => h i (by omega))
    obtain ⟨t, ht⟩ := h n (by omega)
    refine ⟨l ++ [t], by simp [hl], fun i hi => ?_⟩
    by_cases hin : i < l.length
    · rw [List.getElem_append_left hin]; exact hd i hin
    · have : i = n := by simp [hl] at hi; omega
      subst this
      rw [List.getElem_append_right (by omega)]
      simpa [hl] using ht
theorem cellsSpanU : Tryz.prog.cellsOf 67 = 2 := by kernel_rfl
theorem open_spanU (h : DataW.trod enc Tryz.prog w 0 (fun _ => true) true fuel 67 cs = some x) : ∃ a b : Int, cs = [.int .i64 a, .int .i64 b] ∧ (Lit.int .i64 a).wf = true ∧ (Lit.int .i64 b).wf = true := by
  have hl := cells_lenU Tryz.underlying67 h 2 cellsSpanU
  obtain ⟨n0, y0, h0⟩ := field_ofU Tryz.underlying67 h 0 _ rfl 1 cellsI64U
  obtain ⟨n1, y1, h1⟩ := field_ofU Tryz.underlying67 h 1 _ rfl 1 cellsI64U
  match cs, hl with
  | [c0, c1], _ =>
    obtain ⟨a, e0, _, w0⟩ := DataW.trod_int Tryz.underlying2 h0
    obtain ⟨b, e1, _, w1⟩ := DataW.trod_int Tryz.underlying2 h1
    simp at e0 e1
    subst e0 e1
    exact ⟨a, b, rfl, w0, w1⟩
end
theorem add_two (a : Addr) (i n : Nat) (h : a.spot = none) : a.add (i * n) = ⟨a.block, a.off + i * n, none⟩ := by
  obtain ⟨b, o, sp⟩ := a
  simp only at h
  subst h
  by_cases hz : i * n = 0 <;> simp [Addr.add, hz]
set_option maxRecDepth 100000 in
/-- A slice of a struct of numbers that comes in: its elements lie one behind the other. -/
theorem open_listU {H : Type} {enc : TypeId × Value → H} {w : World} {base : Nat} {v : Value} {d : DataW H} {p : List MemPlace} {α : Type} (L : Lay α) {D : α → Prop} (hn : Tryz.prog.cellsOf L.e = L.n) (hv : Value.okWide Tryz.prog w .any base L.t v)
    (h : DataW.Trod enc Tryz.prog w 0 (fun _ => true) true L.t v d p)
    (ho : ∀ fuel cs x, DataW.trod enc Tryz.prog w 0 (fun _ => true) true fuel L.e cs = some x → ∃ t : α, cs = L.enc t ∧ D t) : ∃ ts : List α, RdL L w w.heap.size v ts ∧ ∀ t ∈ ts, D t := by
  obtain ⟨a0, l0, c0, rfl⟩ := okWide_slice L.ht hv
  obtain ⟨fuel, hf⟩ := h
  rcases open_slice L.ht (show DataW.trod enc Tryz.prog w 0 (fun _ => true) true fuel L.t [.slice a0 l0 c0] = _ from hf) with ⟨hcs, _⟩ | ⟨a, len, cap, m, n, D', Pl, hcs, _, hl, hm, hmm, hx, hi⟩
  · simp at hcs
    obtain ⟨rfl, rfl, rfl⟩ := hcs
    exact ⟨[], RdL.nil _ _ _ _ (by omega), by simp⟩
  · simp at hcs
    obtain ⟨rfl, rfl, rfl⟩ := hcs
    have hmc : m = c0 := by simpa using hmm
    have hM := mLenU
    obtain ⟨ts, hts, hc⟩ := list_ofU (T := α) (D := fun i t => D t ∧ ∀ j u, (L.enc t)[j]? = some u → w.cell? ((a.add (i * L.n)).add j) = some u) l0 (fun i hil => by
      obtain ⟨cs', hc', ht'⟩ := hi i (by omega)
      obtain ⟨t, rfl, hd⟩ := ho _ _ _ ht'
      rw [hn] at hc'
      obtain ⟨_, _, hat⟩ := World.cells?_some hc'
      refine ⟨t, hd, fun j u hu => ?_⟩
      have hj : j < (L.enc t).length := (List.getElem?_eq_some_iff.1 hu).1
      have := hat j (by rw [L.len] at hj; exact hj)
      rw [this]
      first | exact hu | simpa using hu)
    refine ⟨ts, ⟨by omega, some a, c0, by rw [hts], by omega, by omega, fun i hi' => ?_⟩, fun t ht => ?_⟩
    · have hsp : a.spot = none := by
        have hp := L.pos
        have h0 : 0 < ts.length := by omega
        obtain ⟨u, hu⟩ : ∃ u, (L.enc (ts[0]'h0))[0]? = some u := ⟨_, List.getElem?_eq_getElem (by rw [L.len]; exact hp)⟩
        have := World.cell?_spot ((hc 0 h0).2 0 u hu)
        rw [Nat.zero_mul] at this
        simpa [Addr.add] using this
      have e := add_two a i L.n hsp
      obtain ⟨b, o, sp⟩ := a
      simp only at hsp e
      subst hsp
      have hcell : ∀ j u, (L.enc (ts[i]'hi'))[j]? = some u → w.cell? ⟨b, o + i * L.n + j, none⟩ = some u := fun j u hu => by
        have := (hc i hi').2 j u hu
        rw [e] at this
        by_cases hz : j = 0
        · subst hz; simpa [Addr.add] using this
        · simpa [Addr.add, hz] using this
      refine ⟨b, o, rfl, ?_, hcell⟩
      obtain ⟨u, hu⟩ : ∃ u, (L.enc (ts[i]'hi'))[0]? = some u := ⟨_, List.getElem?_eq_getElem (by rw [L.len]; exact L.pos)⟩
      exact World.block_lt_of_cell? _ _ (hcell 0 u hu)
    · obtain ⟨i, hi', rfl⟩ := List.getElem_of_mem ht
      exact (hc i hi').1

end Go.Proofs.YtfcbmajogmojbaaGreatDoor
namespace Go.Proofs.YtfcbmajogmojbaaGreatDoor
open Go.ChangeShapes Go.WideShapes Go.RowKit Go.Deep
set_option linter.unusedVariables false
set_option linter.unusedSimpArgs false

section
variable {H : Type} {enc : TypeId × Value → H} {w : World} {fuel : Nat} {cs : List Value} {x : DataW H × List MemPlace}
set_option maxRecDepth 100000 in
/-- A slice in a struct that comes in: its elements lie one behind the other. -/
theorem open_listT {α : Type} (L : Lay α) {D : α → Prop} (hn : Tryz.prog.cellsOf L.e = L.n) (h : DataW.trod enc Tryz.prog w 0 (fun _ => true) true fuel L.t cs = some x)
    (ho : ∀ fuel cs x, DataW.trod enc Tryz.prog w 0 (fun _ => true) true fuel L.e cs = some x → ∃ t : α, cs = L.enc t ∧ D t) : ∃ (v : Value) (ts : List α), cs = [v] ∧ RdL L w w.heap.size v ts ∧ ∀ t ∈ ts, D t := by
  rcases open_slice L.ht h with ⟨hcs, _⟩ | ⟨a, len, cap, m, n, D', Pl, hcs, _, hl, hm, hmm, hx, hi⟩
  · exact ⟨_, [], hcs, RdL.nil _ _ _ _ (by omega), by simp⟩
  · have hmc : m = cap := by simpa using hmm
    have hM := mLenU
    obtain ⟨ts, hts, hc⟩ := list_ofU (T := α) (D := fun i t => D t ∧ ∀ j u, (L.enc t)[j]? = some u → w.cell? ((a.add (i * L.n)).add j) = some u) len (fun i hil => by
      obtain ⟨cs', hc', ht'⟩ := hi i (by omega)
      obtain ⟨t, rfl, hd⟩ := ho _ _ _ ht'
      rw [hn] at hc'
      obtain ⟨_, _, hat⟩ := World.cells?_some hc'
      refine ⟨t, hd, fun j u hu => ?_⟩
      have hj : j < (L.enc t).length := (List.getElem?_eq_some_iff.1 hu).1
      have := hat j (by rw [L.len] at hj; exact hj)
      rw [this]
      first | exact hu | simpa using hu)
    refine ⟨_, ts, hcs, ⟨by omega, some a, cap, by rw [hts], by omega, by omega, fun i hi' => ?_⟩, fun t ht => ?_⟩
    · have hsp : a.spot = none := by
        have hp := L.pos
        have h0 : 0 < ts.length := by omega
        obtain ⟨u, hu⟩ : ∃ u, (L.enc (ts[0]'h0))[0]? = some u := ⟨_, List.getElem?_eq_getElem (by rw [L.len]; exact hp)⟩
        have := World.cell?_spot ((hc 0 h0).2 0 u hu)
        rw [Nat.zero_mul] at this
        simpa [Addr.add] using this
      have e := add_two a i L.n hsp
      obtain ⟨b, o, sp⟩ := a
      simp only at hsp e
      subst hsp
      have hcell : ∀ j u, (L.enc (ts[i]'hi'))[j]? = some u → w.cell? ⟨b, o + i * L.n + j, none⟩ = some u := fun j u hu => by
        have := (hc i hi').2 j u hu
        rw [e] at this
        by_cases hz : j = 0
        · subst hz; simpa [Addr.add] using this
        · simpa [Addr.add, hz] using this
      refine ⟨b, o, rfl, ?_, hcell⟩
      obtain ⟨u, hu⟩ : ∃ u, (L.enc (ts[i]'hi'))[0]? = some u := ⟨_, List.getElem?_eq_getElem (by rw [L.len]; exact L.pos)⟩
      exact World.block_lt_of_cell? _ _ (hcell 0 u hu)
    · obtain ⟨i, hi', rfl⟩ := List.getElem_of_mem ht
      exact (hc i hi').1


def LC : Lay Sp where
  t := 22
  e := 54
  n := 2
  bytes := 16
  enc x := [.int .i64 x.1, .int .i64 x.2]
  len _ := rfl
  one _ u hu := by simp at hu; rcases hu with rfl | rfl <;> rfl
  pos := by decide
  z := .agg #[.int .i64 0, .int .i64 0]
  ht := Tryz.underlying22
  info := by kernel_rfl
  zs := rfl
theorem LC.sp {w : World} {B : Nat} {v : Value} {l : List Sp} (h : RdL LC w B v l) : RdL LSp w B v l := h
theorem cellsSpecZ : Tryz.prog.cellsOf 54 = 2 := by kernel_rfl
theorem open_specZ (h : DataW.trod enc Tryz.prog w 0 (fun _ => true) true fuel 54 cs = some x) : ∃ t : Sp, cs = LC.enc t ∧ True := by
  have hl := cells_lenU Tryz.underlying54 h 2 cellsSpecZ
  obtain ⟨n0, y0, h0⟩ := field_ofU Tryz.underlying54 h 0 _ rfl 1 cellsI64U
  obtain ⟨n1, y1, h1⟩ := field_ofU Tryz.underlying54 h 1 _ rfl 1 cellsI64U
  match cs, hl with
  | [c0, c1], _ =>
    obtain ⟨a, e0, _, w0⟩ := DataW.trod_int Tryz.underlying2 h0
    obtain ⟨b, e1, _, w1⟩ := DataW.trod_int Tryz.underlying2 h1
    simp at e0 e1
    subst e0 e1
    exact ⟨(a, b), rfl, trivial⟩
theorem open_tagZ (h : DataW.trod enc Tryz.prog w 0 (fun _ => true) true fuel 25 cs = some x) : ∃ t : TagL, cs = LT.enc t ∧ t.1.length ≤ 9223372036854775807 := by
  obtain ⟨s, b, rfl, hs⟩ := open_tag h
  refine ⟨(s.data.toList, b), (by show _ = [Value.string ⟨s.data.toList.toArray⟩, Value.bool b]; rw [Array.toArray_toList]), ?_⟩
  have := mLen
  have e : s.data.toList.length = s.size := Array.length_toList
  show s.data.toList.length ≤ _
  rw [e]
  omega
theorem open_reqZ (h : DataW.trod enc Tryz.prog w 0 (fun _ => true) true fuel 29 cs = some x) :
    ∃ (hd : Bool) (ob : ByteArray) (s m n : Value) (sl : List Sp) (ms ns : List TagL) (am an : Bool) (si un : Int) (rt : ByteArray) (rk : Bool),
      cs = [.bool hd, .string ob, s, m, n, .bool am, .bool an, .int .i64 si, .int .i64 un, .string rt, .bool rk] ∧ RdL LSp w w.heap.size s sl ∧ RdL LT w w.heap.size m ms ∧ RdL LT w w.heap.size n ns ∧ (∀ t ∈ ms, t.1.length ≤ 9223372036854775807) ∧ (∀ t ∈ ns, t.1.length ≤ 9223372036854775807) ∧ rt.size ≤ 9223372036854775807 ∧ ob.size ≤ 9223372036854775807 := by
  have hl := cells_len Tryz.underlying29 h 11 cellsReq
  obtain ⟨n0, y0, h0⟩ := field_of Tryz.underlying29 h 0 _ rfl 1 cellsBool
  obtain ⟨n1, y1, h1⟩ := field_of Tryz.underlying29 h 1 _ rfl 1 cellsStr
  obtain ⟨n2, y2, h2⟩ := field_of Tryz.underlying29 h 2 _ rfl 1 cellsSpecs
  obtain ⟨n3, y3, h3⟩ := field_of Tryz.underlying29 h 3 _ rfl 8 cellsCond
  have hlc := cells_len Tryz.underlying27 h3 8 cellsCond
  obtain ⟨p0, z0, k0⟩ := field_of Tryz.underlying27 h3 0 _ rfl 1 cellsTags
  obtain ⟨p1, z1, k1⟩ := field_of Tryz.underlying27 h3 1 _ rfl 1 cellsTags
  obtain ⟨p2, z2, k2⟩ := field_of Tryz.underlying27 h3 2 _ rfl 1 cellsBool
  obtain ⟨p3, z3, k3⟩ := field_of Tryz.underlying27 h3 3 _ rfl 1 cellsBool
  obtain ⟨p4, z4, k4⟩ := field_of Tryz.underlying27 h3 4 _ rfl 1 cellsI64
  obtain ⟨p5, z5, k5⟩ := field_of Tryz.underlying27 h3 5 _ rfl 1 cellsI64
  obtain ⟨p6, z6, k6⟩ := field_of Tryz.underlying27 h3 6 _ rfl 2 cellsTag
  have hM := mLen
  match cs, hl with
  | [c0, c1, c2, c3, c4, c5, c6, c7, c8, c9, c10], _ =>
    obtain ⟨hd, e0, _⟩ := DataW.trod_bool Tryz.underlying4 h0
    obtain ⟨ob, e1, _, w1⟩ := DataW.trod_string Tryz.underlying9 h1
    obtain ⟨s, sl, e2, r2, _⟩ := open_listT (D := fun _ => True) LC cellsSpecZ h2 (fun _ _ _ h => open_specZ h)
    obtain ⟨m, ms, f0, r0, q0⟩ := open_listT (D := fun t : TagL => t.1.length ≤ 9223372036854775807) LT cellsTag k0 (fun _ _ _ h => open_tagZ h)
    obtain ⟨n, ns, f1, r1, q1⟩ := open_listT (D := fun t : TagL => t.1.length ≤ 9223372036854775807) LT cellsTag k1 (fun _ _ _ h => open_tagZ h)
    obtain ⟨am, f2, _⟩ := DataW.trod_bool Tryz.underlying4 k2
    obtain ⟨an, f3, _⟩ := DataW.trod_bool Tryz.underlying4 k3
    obtain ⟨si, f4, _, _⟩ := DataW.trod_int Tryz.underlying2 k4
    obtain ⟨un, f5, _, _⟩ := DataW.trod_int Tryz.underlying2 k5
    obtain ⟨rt, rk, f6, w6⟩ := open_tag k6
    simp at e0 e1 e2 f0 f1 f2 f3 f4 f5 f6
    obtain ⟨rfl, rfl⟩ := f6
    subst e0 e1 e2 f0 f1 f2 f3 f4 f5
    exact ⟨hd, ob, _, _, _, sl, ms, ns, am, an, si, un, rt, rk, rfl, LC.sp r2, r0, r1, q0, q1, Nat.le_trans w6 hM, Nat.le_trans w1 hM⟩
end

end Go.Proofs.YtfcbmajogmojbaaGreatDoor
namespace Go.Proofs.YtfcbmajogmojbaaGreatDoor
open Go.ChangeShapes Go.WideShapes Go.RowKit Go.Deep
set_option linter.unusedVariables false
set_option linter.unusedSimpArgs false

section
variable {H : Type} {enc : TypeId × Value → H} {w : World} {fuel : Nat} {cs : List Value} {x : DataW H × List MemPlace}
theorem open_strsM (h : DataW.trod enc Tryz.prog w 0 (fun _ => true) true fuel 30 cs = some x) : ∃ (v : Value) (ks : List ByteArray), cs = [v] ∧ RdStrs w w.heap.size v ks := by
  rcases open_slice1 Tryz.underlying30 cellsStr h with ⟨hcs, _⟩ | ⟨a, len, cap, m, n, V, D, Pl, hcs, _, hl, hm, hmm, _, hi⟩
  · exact ⟨_, [], hcs, RdStrs.nil _ _⟩
  · have hmc : m = cap := by simpa using hmm
    have hM := mLen
    obtain ⟨ks, hts, hc⟩ := list_of (T := ByteArray) (D := fun i s => s.size ≤ maxLen ∧ w.cell? (a.add i) = some (.string s)) len (fun i hil => by
      obtain ⟨hc', ht'⟩ := hi i (by omega)
      obtain ⟨s, e0, _, hs⟩ := DataW.trod_string Tryz.underlying9 ht'
      simp at e0
      exact ⟨s, hs, by rw [hc', e0]⟩)
    refine ⟨_, ks, hcs, by omega, fun t ht => ?_, some a, cap, by rw [hts], by omega, by omega, fun i hil => ?_⟩
    · obtain ⟨i, hi', rfl⟩ := List.getElem_of_mem ht
      exact Nat.le_trans (hc i hi').1 hM
    · have c0 := (hc i hil).2
      obtain ⟨b, o, sp⟩ := a
      have hsp : sp = none := by
        have h00 := (hc 0 (by omega)).2
        simpa [Addr.add] using World.cell?_spot h00
      subst hsp
      have hlt := cell_lt'' c0
      simp only [add_plain] at c0 hlt
      exact ⟨b, o, rfl, by simpa using hlt, c0⟩

set_option maxRecDepth 100000 in
theorem open_metaM (h : DataW.trod enc Tryz.prog w 0 (fun _ => true) true fuel 32 cs = some x) :
    ∃ (mt : ByteArray) (mk : Bool) (md ln hv fr wh er : Int) (kv : Value) (tn : ByteArray) (kp : Bool) (ks : List ByteArray),
      cs = [.string mt, .bool mk, .int .i64 md, .int .i64 ln, .int .i64 hv, .int .i64 fr, .int .i64 wh, .int .i64 er, kv, .string tn, .bool kp] ∧ mt.size ≤ 9223372036854775807 ∧ tn.size ≤ 9223372036854775807 ∧ RdStrs w w.heap.size kv ks := by
  have hl := cells_len Tryz.underlying32 h 11 cellsMeta
  obtain ⟨n0, y0, h0⟩ := field_of Tryz.underlying32 h 0 _ rfl 2 cellsTag
  obtain ⟨n1, y1, h1⟩ := field_of Tryz.underlying32 h 1 _ rfl 1 cellsI64
  obtain ⟨n2, y2, h2⟩ := field_of Tryz.underlying32 h 2 _ rfl 1 cellsI64
  obtain ⟨n3, y3, h3⟩ := field_of Tryz.underlying32 h 3 _ rfl 1 cellsI64
  obtain ⟨n4, y4, h4⟩ := field_of Tryz.underlying32 h 4 _ rfl 1 cellsI64
  obtain ⟨n5, y5, h5⟩ := field_of Tryz.underlying32 h 5 _ rfl 1 cellsI64
  obtain ⟨n6, y6, h6⟩ := field_of Tryz.underlying32 h 6 _ rfl 1 cellsI64
  obtain ⟨n7, y7, h7⟩ := field_of Tryz.underlying32 h 7 _ rfl 1 cellsStrs
  obtain ⟨n8, y8, h8⟩ := field_of Tryz.underlying32 h 8 _ rfl 1 cellsStr
  obtain ⟨n9, y9, h9⟩ := field_of Tryz.underlying32 h 9 _ rfl 1 cellsBool
  match cs, hl with
  | [c0, c1, c2, c3, c4, c5, c6, c7, c8, c9, c10], _ =>
    obtain ⟨mt, mk, e0, w0⟩ := open_tag h0
    obtain ⟨md, e1, _, _⟩ := DataW.trod_int Tryz.underlying2 h1
    obtain ⟨ln, e2, _, _⟩ := DataW.trod_int Tryz.underlying2 h2
    obtain ⟨hv, e3, _, _⟩ := DataW.trod_int Tryz.underlying2 h3
    obtain ⟨fr, e4, _, _⟩ := DataW.trod_int Tryz.underlying2 h4
    obtain ⟨wh, e5, _, _⟩ := DataW.trod_int Tryz.underlying2 h5
    obtain ⟨er, e6, _, _⟩ := DataW.trod_int Tryz.underlying2 h6
    obtain ⟨kv, ks, e7, w7⟩ := open_strsM h7
    obtain ⟨tn, e8, _, w8⟩ := DataW.trod_string Tryz.underlying9 h8
    obtain ⟨kp, e9, _⟩ := DataW.trod_bool Tryz.underlying4 h9
    simp at e0 e1 e2 e3 e4 e5 e6 e7 e8 e9
    obtain ⟨rfl, rfl⟩ := e0
    subst e1 e2 e3 e4 e5 e6 e7 e8 e9
    exact ⟨mt, mk, md, ln, hv, fr, wh, er, _, tn, kp, ks, rfl, Nat.le_trans w0 mLen, Nat.le_trans w8 mLen, w7⟩
end
end Go.Proofs.YtfcbmajogmojbaaGreatDoor
