/-
  A slice of acts, opened cell by cell.
-/
import Derived.Test.YtdbocpgkedgpcaaOpenF
namespace Go.Proofs.Ytdbocpgkedgpcaa
open Go.ChangeShapes Go.WideShapes Go.RowKit Go.Deep
set_option linter.unusedVariables false
set_option linter.unusedSimpArgs false
/-- An act, its keys as a list. -/
structure ActL where
  kd : Int
  st : Int
  mt : ByteArray
  wk : Bool
  md : Int
  ln : Int
  hv : Int
  fr : Int
  wh : Int
  er : Int
  kv : Value
  tn : ByteArray
  kp : Bool
  sa : Int
  sb : Int
  ag : Int
  n : Int
  wl : Bool
  ks : List ByteArray
def ActL.cells (a : ActL) : List Value := [.int .u8 a.kd, .int .i64 a.st, .string a.mt, .bool a.wk, .int .i64 a.md, .int .i64 a.ln, .int .i64 a.hv, .int .i64 a.fr, .int .i64 a.wh, .int .i64 a.er, a.kv, .string a.tn, .bool a.kp, .int .i64 a.sa, .int .i64 a.sb, .int .i64 a.ag, .int .i64 a.n, .bool a.wl]
structure ActL.Ok (w : World) (B : Nat) (a : ActL) : Prop where
  hmt : a.mt.size ≤ 9223372036854775807
  htn : a.tn.size ≤ 9223372036854775807
  hr : RdStrs w B a.kv a.ks
  hk : 0 ≤ a.kd ∧ a.kd ≤ 255
  hn : -9223372036854775808 ≤ a.n ∧ a.n ≤ 9223372036854775807
/-- A slice of acts that can be read, below block B. -/
def RdActs (w : World) (B : Nat) (v : Value) (l : List ActL) : Prop :=
  l.length ≤ 9223372036854775807 ∧ (∀ a ∈ l, a.Ok w B) ∧ ∃ (A : Option Addr) (c : Nat), v = .slice A l.length c ∧
    ∀ i (h : i < l.length), ∃ b off, A = some ⟨b, off, none⟩ ∧ b < B ∧ ∀ j (hj : j < 18), w.cell? ⟨b, off + i * 18 + j, none⟩ = l[i].cells[j]?
theorem open_acts {H : Type} {enc : TypeId × Value → H} {w : World} {base : Nat} {v : Value} {d : DataW H} {p : List MemPlace} (hv : Value.okWide Try.prog w .any base 38 v)
    (h : DataW.Trod enc Try.prog w 0 (fun _ => true) true 38 v d p) : ∃ l : List ActL, RdActs w w.heap.size v l := by
  obtain ⟨a0, l0, c0, rfl⟩ := okWide_slice Try.underlying38 hv
  obtain ⟨fuel, hf⟩ := h
  rcases open_slice Try.underlying38 (show DataW.trod enc Try.prog w 0 (fun _ => true) true fuel 38 [.slice a0 l0 c0] = _ from hf) with ⟨hcs, _⟩ | ⟨a, len, cap, m, n, D, Pl, hcs, _, hl, hm, hmm, _, hi⟩
  · simp at hcs
    obtain ⟨rfl, rfl, rfl⟩ := hcs
    exact ⟨[], by simp, by simp, none, 0, rfl, fun i h => by simp at h⟩
  · simp at hcs
    obtain ⟨rfl, rfl, rfl⟩ := hcs
    have hmc : m = c0 := by simpa using hmm
    have hM := mLen
    obtain ⟨ns, hts, hc⟩ := list_of (T := ActL) (D := fun i s => s.Ok w w.heap.size ∧ ∀ j, j < 18 → w.cell? ((a.add (i * 18)).add j) = s.cells[j]?) l0 (fun i hil => by
      obtain ⟨cs', hc', ht'⟩ := hi i (by omega)
      rw [cellsAct] at hc'
      obtain ⟨kd, st, mt, mk, md, ln, hv', fr, wh, er, kv, tn, kp, sa, sb, ag, ks, n', wl, rfl, w1, w2, w3, w4, w5⟩ := open_act ht'
      obtain ⟨_, _, hat⟩ := World.cells?_some hc'
      refine ⟨⟨kd, st, mt, mk, md, ln, hv', fr, wh, er, kv, tn, kp, sa, sb, ag, n', wl, ks⟩, ⟨w1, w2, w3, w4, w5⟩, fun j hj => ?_⟩
      have := hat j (by simpa using hj)
      rw [this]
      rfl)
    refine ⟨ns, by omega, fun t ht => ?_, some a, c0, by rw [hts], fun i hil => ?_⟩
    · obtain ⟨i, hi', rfl⟩ := List.getElem_of_mem ht
      exact (hc i hi').1
    · have x0 := (hc i hil).2
      obtain ⟨b, o, sp⟩ := a
      have hsp : sp = none := by
        have h00 := (hc 0 (by omega)).2 0 (by omega)
        have e : (ns[0]'(by omega)).cells[0]? = some (.int .u8 (ns[0]'(by omega)).kd) := rfl
        rw [e] at h00
        simpa [Addr.add] using World.cell?_spot h00
      subst hsp
      have h1 := x0 0 (by omega)
      have e : (ns[i]).cells[0]? = some (.int .u8 (ns[i]).kd) := rfl
      rw [e] at h1
      have hlt := cell_lt'' h1
      simp only [add_plain] at x0 hlt
      exact ⟨b, o, rfl, by simpa using hlt, x0⟩
end Go.Proofs.Ytdbocpgkedgpcaa
