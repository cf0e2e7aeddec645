/-
  Fetches, replies and what happens to a fetch, opened cell by cell.
-/
import Derived.Test.YtdbocpgkedgpcaaOpenB
namespace Go.Proofs.Ytdbocpgkedgpcaa
open Go.ChangeShapes Go.WideShapes Go.RowKit Go.Deep
set_option linter.unusedVariables false
set_option linter.unusedSimpArgs false
section
variable {H : Type} {enc : TypeId × Value → H} {w : World} {fuel : Nat} {cs : List Value} {x : DataW H × List MemPlace}
theorem cellsSpan : Try.prog.cellsOf 23 = 2 := by kernel_rfl
theorem cellsFetch : Try.prog.cellsOf 27 = 7 := by kernel_rfl
theorem cellsReply : Try.prog.cellsOf 32 = 15 := by kernel_rfl
theorem cellsInt : Try.prog.cellsOf 3 = 1 := by kernel_rfl
theorem cellsAct : Try.prog.cellsOf 40 = 18 := by kernel_rfl
theorem cellsU8 : Try.prog.cellsOf 5 = 1 := by kernel_rfl

theorem open_span (h : DataW.trod enc Try.prog w 0 (fun _ => true) true fuel 23 cs = some x) : ∃ a b : Int, cs = [.int .i64 a, .int .i64 b] := by
  have hl := cells_len Try.underlying23 h 2 cellsSpan
  obtain ⟨n0, y0, h0⟩ := field_of Try.underlying23 h 0 _ rfl 1 cellsI64
  obtain ⟨n1, y1, h1⟩ := field_of Try.underlying23 h 1 _ rfl 1 cellsI64
  match cs, hl with
  | [c0, c1], _ =>
    obtain ⟨a, e0, _, _⟩ := DataW.trod_int Try.underlying2 h0
    obtain ⟨b, e1, _, _⟩ := DataW.trod_int Try.underlying2 h1
    simp at e0 e1
    subst e0 e1
    exact ⟨a, b, rfl⟩
theorem open_fetch (h : DataW.trod enc Try.prog w 0 (fun _ => true) true fuel 27 cs = some x) :
    ∃ (ob : ByteArray) (fa fb : Int) (ft : ByteArray) (fk : Bool) (nt : ByteArray) (nk : Bool), cs = [.string ob, .int .i64 fa, .int .i64 fb, .string ft, .bool fk, .string nt, .bool nk] ∧
      ob.size ≤ 9223372036854775807 ∧ ft.size ≤ 9223372036854775807 ∧ nt.size ≤ 9223372036854775807 := by
  have hl := cells_len Try.underlying27 h 7 cellsFetch
  obtain ⟨n0, y0, h0⟩ := field_of Try.underlying27 h 0 _ rfl 1 cellsStr
  obtain ⟨n1, y1, h1⟩ := field_of Try.underlying27 h 1 _ rfl 2 cellsSpan
  obtain ⟨n2, y2, h2⟩ := field_of Try.underlying27 h 2 _ rfl 2 cellsTag
  obtain ⟨n3, y3, h3⟩ := field_of Try.underlying27 h 3 _ rfl 2 cellsTag
  match cs, hl with
  | [c0, c1, c2, c3, c4, c5, c6], _ =>
    obtain ⟨ob, e0, _, w0⟩ := DataW.trod_string Try.underlying9 h0
    obtain ⟨a, b, e1⟩ := open_span h1
    obtain ⟨ft, fk, e2, w2⟩ := open_tag h2
    obtain ⟨nt, nk, e3, w3⟩ := open_tag h3
    simp at e0 e1 e2 e3
    obtain ⟨rfl, rfl⟩ := e1
    obtain ⟨rfl, rfl⟩ := e2
    obtain ⟨rfl, rfl⟩ := e3
    subst e0
    exact ⟨ob, a, b, ft, fk, nt, nk, rfl, Nat.le_trans w0 mLen, w2, w3⟩
theorem open_reply (h : DataW.trod enc Try.prog w 0 (fun _ => true) true fuel 32 cs = some x) :
    ∃ (st : Int) (mt : ByteArray) (mk : Bool) (md ln hv fr wh er : Int) (kv : Value) (tn : ByteArray) (kp : Bool) (sa sb ag : Int) (ks : List ByteArray),
      cs = [.int .i64 st, .string mt, .bool mk, .int .i64 md, .int .i64 ln, .int .i64 hv, .int .i64 fr, .int .i64 wh, .int .i64 er, kv, .string tn, .bool kp, .int .i64 sa, .int .i64 sb, .int .i64 ag] ∧ mt.size ≤ 9223372036854775807 ∧ tn.size ≤ 9223372036854775807 ∧ RdStrs w w.heap.size kv ks := by
  have hl := cells_len Try.underlying32 h 15 cellsReply
  obtain ⟨n0, y0, h0⟩ := field_of Try.underlying32 h 0 _ rfl 1 cellsInt
  obtain ⟨n1, y1, h1⟩ := field_of Try.underlying32 h 1 _ rfl 11 cellsMeta
  obtain ⟨n2, y2, h2⟩ := field_of Try.underlying32 h 2 _ rfl 2 cellsSpan
  obtain ⟨n3, y3, h3⟩ := field_of Try.underlying32 h 3 _ rfl 1 cellsI64
  match cs, hl with
  | [c0, c1, c2, c3, c4, c5, c6, c7, c8, c9, c10, c11, c12, c13, c14], _ =>
    obtain ⟨st, e0, _, _⟩ := DataW.trod_int Try.underlying3 h0
    obtain ⟨mt, mk, md, ln, hv, fr, wh, er, kv, tn, kp, ks, e1, w1, w2, w3⟩ := open_meta h1
    obtain ⟨a, b, e2⟩ := open_span h2
    obtain ⟨ag, e3, _, _⟩ := DataW.trod_int Try.underlying2 h3
    simp at e0 e1 e2 e3
    obtain ⟨rfl, rfl, rfl, rfl, rfl, rfl, rfl, rfl, rfl, rfl, rfl⟩ := e1
    obtain ⟨rfl, rfl⟩ := e2
    subst e0 e3
    exact ⟨st, _, _, _, _, _, _, _, _, _, _, _, a, b, ag, ks, rfl, w1, w2, w3⟩
theorem open_act (h : DataW.trod enc Try.prog w 0 (fun _ => true) true fuel 40 cs = some x) :
    ∃ (kd : Int) (st : Int) (mt : ByteArray) (mk : Bool) (md ln hv fr wh er : Int) (kv : Value) (tn : ByteArray) (kp : Bool) (sa sb ag : Int) (ks : List ByteArray) (n : Int) (wl : Bool),
      cs = [.int .u8 kd, .int .i64 st, .string mt, .bool mk, .int .i64 md, .int .i64 ln, .int .i64 hv, .int .i64 fr, .int .i64 wh, .int .i64 er, kv, .string tn, .bool kp, .int .i64 sa, .int .i64 sb, .int .i64 ag, .int .i64 n, .bool wl] ∧ mt.size ≤ 9223372036854775807 ∧ tn.size ≤ 9223372036854775807 ∧ RdStrs w w.heap.size kv ks ∧ (0 ≤ kd ∧ kd ≤ 255) ∧ (-9223372036854775808 ≤ n ∧ n ≤ 9223372036854775807) := by
  have hl := cells_len Try.underlying40 h 18 cellsAct
  obtain ⟨n0, y0, h0⟩ := field_of Try.underlying40 h 0 _ rfl 1 cellsU8
  obtain ⟨n1, y1, h1⟩ := field_of Try.underlying40 h 1 _ rfl 15 cellsReply
  obtain ⟨n2, y2, h2⟩ := field_of Try.underlying40 h 2 _ rfl 1 cellsI64
  obtain ⟨n3, y3, h3⟩ := field_of Try.underlying40 h 3 _ rfl 1 cellsBool
  match cs, hl with
  | [c, c0, c1, c2, c3, c4, c5, c6, c7, c8, c9, c10, c11, c12, c13, c14, c15, c16], _ =>
    obtain ⟨kd, e0, _, wf0⟩ := DataW.trod_int Try.underlying5 h0
    obtain ⟨st, mt, mk, md, ln, hv, fr, wh, er, kv, tn, kp, sa, sb, ag, ks, e1, w1, w2, w3⟩ := open_reply h1
    obtain ⟨n, e2, _, wf2⟩ := DataW.trod_int Try.underlying2 h2
    obtain ⟨wl, e3, _⟩ := DataW.trod_bool Try.underlying4 h3
    simp at e0 e1 e2 e3
    obtain ⟨rfl, rfl, rfl, rfl, rfl, rfl, rfl, rfl, rfl, rfl, rfl, rfl, rfl, rfl, rfl⟩ := e1
    subst e0 e2 e3
    have b0 := wf0
    have b2 := wf2
    simp only [Lit.wf, Bool.and_eq_true, decide_eq_true_eq] at b0 b2
    have k0 : IntKind.u8.min = 0 := by decide
    have k1 : IntKind.u8.max = 255 := by decide
    have k2 : IntKind.i64.min = -9223372036854775808 := by decide
    have k3 : IntKind.i64.max = 9223372036854775807 := by decide
    rw [k0, k1] at b0
    rw [k2, k3] at b2
    exact ⟨kd, st, _, _, _, _, _, _, _, _, _, _, _, _, _, _, ks, n, wl, rfl, w1, w2, w3, by omega, by omega⟩
end
end Go.Proofs.Ytdbocpgkedgpcaa
