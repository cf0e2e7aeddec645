/-
  Conditions, requests and what is known of a version, opened cell by cell.
-/
import Derived.Test.YtnipbhmacfnjfaaDoorOpenA
namespace Go.Proofs.YtnipbhmacfnjfaaDoor
open Go.ChangeShapes Go.WideShapes Go.RowKit Go.Deep

section
variable {H : Type} {enc : TypeId × Value → H} {w : World} {fuel : Nat} {cs : List Value} {x : DataW H × List MemPlace}
theorem cellsCond : Tryd.prog.cellsOf 46 = 8 := by kernel_rfl
theorem cellsReq : Tryd.prog.cellsOf 75 = 11 := by kernel_rfl
theorem cellsMeta : Tryd.prog.cellsOf 71 = 11 := by kernel_rfl
theorem cellsSpecs : Tryd.prog.cellsOf 73 = 1 := by kernel_rfl
theorem cellsStrs : Tryd.prog.cellsOf 41 = 1 := by kernel_rfl

theorem open_cond (h : DataW.trod enc Tryd.prog w 0 (fun _ => true) true fuel 46 cs = some x) :
    ∃ (m n : Value) (ts us : List Tag) (am an : Bool) (si un : Int) (rt : ByteArray) (rk : Bool), cs = [m, n, .bool am, .bool an, .int .i64 si, .int .i64 un, .string rt, .bool rk] ∧ RdTags w w.heap.size m ts ∧ RdTags w w.heap.size n us ∧
      rt.size ≤ maxLen ∧ (Lit.int .i64 si).wf = true ∧ (Lit.int .i64 un).wf = true := by
  have hl := cells_len Tryd.underlying46 h 8 cellsCond
  obtain ⟨n0, y0, h0⟩ := field_of Tryd.underlying46 h 0 _ rfl 1 cellsTags
  obtain ⟨n1, y1, h1⟩ := field_of Tryd.underlying46 h 1 _ rfl 1 cellsTags
  obtain ⟨n2, y2, h2⟩ := field_of Tryd.underlying46 h 2 _ rfl 1 cellsBool
  obtain ⟨n3, y3, h3⟩ := field_of Tryd.underlying46 h 3 _ rfl 1 cellsBool
  obtain ⟨n4, y4, h4⟩ := field_of Tryd.underlying46 h 4 _ rfl 1 cellsI64
  obtain ⟨n5, y5, h5⟩ := field_of Tryd.underlying46 h 5 _ rfl 1 cellsI64
  obtain ⟨n6, y6, h6⟩ := field_of Tryd.underlying46 h 6 _ rfl 2 cellsTag
  match cs, hl with
  | [c0, c1, c2, c3, c4, c5, c6, c7], _ =>
    obtain ⟨m, ts, e0, r0⟩ := open_tags h0
    obtain ⟨n, us, e1, r1⟩ := open_tags h1
    obtain ⟨am, e2, _⟩ := DataW.trod_bool Tryd.underlying4 h2
    obtain ⟨an, e3, _⟩ := DataW.trod_bool Tryd.underlying4 h3
    obtain ⟨si, e4, _, w4⟩ := DataW.trod_int Tryd.underlying2 h4
    obtain ⟨un, e5, _, w5⟩ := DataW.trod_int Tryd.underlying2 h5
    obtain ⟨rt, rk, e6, w6⟩ := open_tag h6
    simp at e0 e1 e2 e3 e4 e5 e6
    obtain ⟨e6, e7⟩ := e6
    subst e0 e1 e2 e3 e4 e5 e6 e7
    exact ⟨_, _, ts, us, am, an, si, un, rt, rk, rfl, r0, r1, w6, w4, w5⟩

theorem open_any_slice {t e : TypeId} (ht : Tryd.prog.underlying t = some (.slice e)) (h : DataW.trod enc Tryd.prog w 0 (fun _ => true) true fuel t cs = some x) : ∃ (a : Option Addr) (l c : Nat), cs = [.slice a l c] ∧ l ≤ maxLen := by
  rcases open_slice ht h with ⟨hcs, _⟩ | ⟨a, len, cap, m, n, D, Pl, hcs, _, hl, hm, _⟩
  · exact ⟨none, 0, 0, hcs, by decide⟩
  · exact ⟨some a, len, cap, hcs, by omega⟩

theorem open_req (h : DataW.trod enc Tryd.prog w 0 (fun _ => true) true fuel 75 cs = some x) :
    ∃ (hd : Bool) (ob : ByteArray) (sa : Option Addr) (sn sc : Nat) (m n : Value) (ts us : List Tag) (am an : Bool) (si un : Int) (rt : ByteArray) (rk : Bool),
      cs = [.bool hd, .string ob, .slice sa sn sc, m, n, .bool am, .bool an, .int .i64 si, .int .i64 un, .string rt, .bool rk] ∧ RdTags w w.heap.size m ts ∧ RdTags w w.heap.size n us ∧ rt.size ≤ maxLen ∧ sn ≤ maxLen := by
  have hl := cells_len Tryd.underlying75 h 11 cellsReq
  obtain ⟨n0, y0, h0⟩ := field_of Tryd.underlying75 h 0 _ rfl 1 cellsBool
  obtain ⟨n1, y1, h1⟩ := field_of Tryd.underlying75 h 1 _ rfl 1 cellsStr
  obtain ⟨n2, y2, h2⟩ := field_of Tryd.underlying75 h 2 _ rfl 1 cellsSpecs
  obtain ⟨n3, y3, h3⟩ := field_of Tryd.underlying75 h 3 _ rfl 8 cellsCond
  match cs, hl with
  | [c0, c1, c2, c3, c4, c5, c6, c7, c8, c9, c10], _ =>
    obtain ⟨hd, e0, _⟩ := DataW.trod_bool Tryd.underlying4 h0
    obtain ⟨ob, e1, _, _⟩ := DataW.trod_string Tryd.underlying9 h1
    obtain ⟨sa, sn, sc, e2, w2⟩ := open_any_slice Tryd.underlying73 h2
    obtain ⟨m, n, ts, us, am, an, si, un, rt, rk, e3, r0, r1, w3, _, _⟩ := open_cond h3
    simp at e0 e1 e2 e3
    obtain ⟨rfl, rfl, rfl, rfl, rfl, rfl, rfl, rfl⟩ := e3
    subst e0 e1 e2
    exact ⟨hd, ob, sa, sn, sc, _, _, ts, us, am, an, si, un, rt, rk, rfl, r0, r1, w3, w2⟩

theorem open_meta (h : DataW.trod enc Tryd.prog w 0 (fun _ => true) true fuel 71 cs = some x) :
    ∃ (mt : ByteArray) (mk : Bool) (md ln hv fr wh er : Int) (kv : Value) (tn : ByteArray) (kp : Bool),
      cs = [.string mt, .bool mk, .int .i64 md, .int .i64 ln, .int .i64 hv, .int .i64 fr, .int .i64 wh, .int .i64 er, kv, .string tn, .bool kp] ∧ mt.size ≤ maxLen := by
  have hl := cells_len Tryd.underlying71 h 11 cellsMeta
  obtain ⟨n0, y0, h0⟩ := field_of Tryd.underlying71 h 0 _ rfl 2 cellsTag
  obtain ⟨n1, y1, h1⟩ := field_of Tryd.underlying71 h 1 _ rfl 1 cellsI64
  obtain ⟨n2, y2, h2⟩ := field_of Tryd.underlying71 h 2 _ rfl 1 cellsI64
  obtain ⟨n3, y3, h3⟩ := field_of Tryd.underlying71 h 3 _ rfl 1 cellsI64
  obtain ⟨n4, y4, h4⟩ := field_of Tryd.underlying71 h 4 _ rfl 1 cellsI64
  obtain ⟨n5, y5, h5⟩ := field_of Tryd.underlying71 h 5 _ rfl 1 cellsI64
  obtain ⟨n6, y6, h6⟩ := field_of Tryd.underlying71 h 6 _ rfl 1 cellsI64
  obtain ⟨n7, y7, h7⟩ := field_of Tryd.underlying71 h 7 _ rfl 1 cellsStrs
  obtain ⟨n8, y8, h8⟩ := field_of Tryd.underlying71 h 8 _ rfl 1 cellsStr
  obtain ⟨n9, y9, h9⟩ := field_of Tryd.underlying71 h 9 _ rfl 1 cellsBool
  match cs, hl with
  | [c0, c1, c2, c3, c4, c5, c6, c7, c8, c9, c10], _ =>
    obtain ⟨mt, mk, e0, w0⟩ := open_tag h0
    obtain ⟨md, e1, _, _⟩ := DataW.trod_int Tryd.underlying2 h1
    obtain ⟨ln, e2, _, _⟩ := DataW.trod_int Tryd.underlying2 h2
    obtain ⟨hv, e3, _, _⟩ := DataW.trod_int Tryd.underlying2 h3
    obtain ⟨fr, e4, _, _⟩ := DataW.trod_int Tryd.underlying2 h4
    obtain ⟨wh, e5, _, _⟩ := DataW.trod_int Tryd.underlying2 h5
    obtain ⟨er, e6, _, _⟩ := DataW.trod_int Tryd.underlying2 h6
    obtain ⟨tn, e8, _, _⟩ := DataW.trod_string Tryd.underlying9 h8
    obtain ⟨kp, e9, _⟩ := DataW.trod_bool Tryd.underlying4 h9
    simp at e0 e1 e2 e3 e4 e5 e6 e8 e9
    obtain ⟨rfl, rfl⟩ := e0
    subst e1 e2 e3 e4 e5 e6 e8 e9
    exact ⟨mt, mk, md, ln, hv, fr, wh, er, c8, tn, kp, rfl, w0⟩
end

set_option maxRecDepth 100000 in
/-- A struct that comes in by value: its cells. -/
theorem open_struct {H : Type} {enc : TypeId × Value → H} {w : World} {base : Nat} {t : TypeId} {fs : Array Field} {v : Value} {d : DataW H} {p : List MemPlace} (ht : Tryd.prog.underlying t = some (.struct fs)) (hv : Value.okWide Tryd.prog w .any base t v)
    (h : DataW.Trod enc Tryd.prog w 0 (fun _ => true) true t v d p) : ∃ (cs : List Value) (fuel : Nat) (x : DataW H × List MemPlace), v = .agg cs.toArray ∧ DataW.trod enc Tryd.prog w 0 (fun _ => true) true fuel t cs = some x := by
  obtain ⟨cs, rfl, _⟩ := okWide_struct ht hv
  obtain ⟨fuel, hf⟩ := h
  exact ⟨cs.toList, fuel, _, by simp, by simpa [Value.cells] using hf⟩
set_option maxRecDepth 100000 in
/-- A slice that comes in: its three parts. -/
theorem open_slice_len {H : Type} {enc : TypeId × Value → H} {w : World} {base : Nat} {t e : TypeId} {v : Value} {d : DataW H} {p : List MemPlace} (ht : Tryd.prog.underlying t = some (.slice e)) (hv : Value.okWide Tryd.prog w .any base t v)
    (h : DataW.Trod enc Tryd.prog w 0 (fun _ => true) true t v d p) : ∃ (a : Option Addr) (l c : Nat), v = .slice a l c ∧ l ≤ maxLen := by
  obtain ⟨a, l, c, rfl⟩ := okWide_slice ht hv
  obtain ⟨fuel, hf⟩ := h
  obtain ⟨a', l', c', e2, w2⟩ := open_any_slice ht (show DataW.trod enc Tryd.prog w 0 (fun _ => true) true fuel t [.slice a l c] = _ from hf)
  simp at e2
  obtain ⟨rfl, rfl, rfl⟩ := e2
  exact ⟨_, _, _, rfl, w2⟩
end Go.Proofs.YtnipbhmacfnjfaaDoor
