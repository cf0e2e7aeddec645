/-
  What is told of a fetch: the reference's functions, where none calls another.
-/
import Derived.Test.YtdbocpgkedgpcaaFetO
namespace Go.Proofs.Ytdbocpgkedgpcaa
open Go.RowKit
set_option linter.unusedVariables false
set_option linter.unusedSimpArgs false

def AggInt (cs : Array Value) (a : Int) (w : World) (e : Ending) (w' : World) : Prop := e = .returned (.tuple #[.agg cs, .int .i64 a]) ∧ Below w.heap.size w w'
def AggSpanInt (cs : Array Value) (a b c : Int) (w : World) (e : Ending) (w' : World) : Prop := e = .returned (.tuple #[.agg cs, .agg #[.int .i64 a, .int .i64 b], .int .i64 c]) ∧ Below w.heap.size w w'
def AggInts (cs : Array Value) (a b : Int) (w : World) (e : Ending) (w' : World) : Prop := e = .returned (.tuple #[.agg cs, .int .i64 a, .int .i64 b]) ∧ Below w.heap.size w w'

set_option maxRecDepth 100000 in
set_option maxHeartbeats 2000000 in
theorem rdata_idle (ob : ByteArray) (fa fb : Int) (ft : ByteArray) (fk : Bool) (nt : ByteArray) (nk : Bool) (s p q n : Int) (w : World) (hs : (s != 1) = true) : Calls Try.prog 21 #[.agg #[.string ob, .int .i64 fa, .int .i64 fb, .string ft, .bool fk, .string nt, .bool nk, .int .i64 s, .int .i64 p, .int .i64 q], .int .i64 n] w (AggSpanInt #[.string ob, .int .i64 fa, .int .i64 fb, .string ft, .bool fk, .string nt, .bool nk, .int .i64 s, .int .i64 p, .int .i64 q] 0 0 11 w) := by
  go_enter Try.func21, Try.ntmps21
  go_wp2
  exact bodyPost_ret (v := .tuple #[.agg #[.string ob, .int .i64 fa, .int .i64 fb, .string ft, .bool fk, .string nt, .bool nk, .int .i64 s, .int .i64 p, .int .i64 q], .agg #[.int .i64 0, .int .i64 0], .int .i64 11]) (by simp [results, Try.results21, go_sem]) rfl ⟨rfl, ((((Below.refl _ _).alloc (Nat.le_refl _) _).alloc (by simp; try omega) _).alloc (by simp; try omega) _)⟩

set_option maxRecDepth 100000 in
set_option maxHeartbeats 2000000 in
theorem rdata_low (ob : ByteArray) (fa fb : Int) (ft : ByteArray) (fk : Bool) (nt : ByteArray) (nk : Bool) (p q n : Int) (w : World) (hn : n < 1) : Calls Try.prog 21 #[.agg #[.string ob, .int .i64 fa, .int .i64 fb, .string ft, .bool fk, .string nt, .bool nk, .int .i64 1, .int .i64 p, .int .i64 q], .int .i64 n] w (AggSpanInt #[.string ob, .int .i64 fa, .int .i64 fb, .string ft, .bool fk, .string nt, .bool nk, .int .i64 1, .int .i64 p, .int .i64 q] 0 0 1 w) := by
  go_enter Try.func21, Try.ntmps21
  go_wp2
  exact bodyPost_ret (v := .tuple #[.agg #[.string ob, .int .i64 fa, .int .i64 fb, .string ft, .bool fk, .string nt, .bool nk, .int .i64 1, .int .i64 p, .int .i64 q], .agg #[.int .i64 0, .int .i64 0], .int .i64 1]) (by simp [results, Try.results21, go_sem]) rfl ⟨rfl, ((((Below.refl _ _).alloc (Nat.le_refl _) _).alloc (by simp; try omega) _).alloc (by simp; try omega) _)⟩

set_option maxRecDepth 100000 in
set_option maxHeartbeats 2000000 in
theorem rdata_many (ob : ByteArray) (fa fb : Int) (ft : ByteArray) (fk : Bool) (nt : ByteArray) (nk : Bool) (p q n : Int) (w : World) (h0 : 0 ≤ p) (h1 : p ≤ q) (h2 : q ≤ 4611686018427387904) (hn : ¬ n < 1) (hm : q - p < n) : Calls Try.prog 21 #[.agg #[.string ob, .int .i64 fa, .int .i64 fb, .string ft, .bool fk, .string nt, .bool nk, .int .i64 1, .int .i64 p, .int .i64 q], .int .i64 n] w (AggSpanInt #[.string ob, .int .i64 fa, .int .i64 fb, .string ft, .bool fk, .string nt, .bool nk, .int .i64 1, .int .i64 p, .int .i64 q] 0 0 4 w) := by
  go_enter Try.func21, Try.ntmps21
  go_wp2
  exact bodyPost_ret (v := .tuple #[.agg #[.string ob, .int .i64 fa, .int .i64 fb, .string ft, .bool fk, .string nt, .bool nk, .int .i64 1, .int .i64 p, .int .i64 q], .agg #[.int .i64 0, .int .i64 0], .int .i64 4]) (by simp [results, Try.results21, go_sem]) rfl ⟨rfl, ((((Below.refl _ _).alloc (Nat.le_refl _) _).alloc (by simp; try omega) _).alloc (by simp; try omega) _)⟩

set_option maxRecDepth 100000 in
set_option maxHeartbeats 2000000 in
theorem rrest_idle (ob : ByteArray) (fa fb : Int) (ft : ByteArray) (fk : Bool) (nt : ByteArray) (nk : Bool) (s p q : Int) (w : World) (hs : (s == 1 && (p != q)) = false) : Calls Try.prog 25 #[.agg #[.string ob, .int .i64 fa, .int .i64 fb, .string ft, .bool fk, .string nt, .bool nk, .int .i64 s, .int .i64 p, .int .i64 q]] w (SpanBool 0 0 false w) := by
  by_cases h1 : s = 1
  · subst h1
    have e1 : (p == q) = true := by simpa using hs
    clear hs
    go_enter Try.func25, Try.ntmps25
    go_wp2
    exact bodyPost_ret (v := .tuple #[.agg #[.int .i64 0, .int .i64 0], .bool false]) (by simp [results, Try.results25, go_sem]) rfl ⟨rfl, (((Below.refl _ _).alloc (Nat.le_refl _) _).alloc (by simp; try omega) _)⟩
  · have e1 : (s != 1) = true := by simpa using h1
    clear hs h1
    go_enter Try.func25, Try.ntmps25
    go_wp2
    exact bodyPost_ret (v := .tuple #[.agg #[.int .i64 0, .int .i64 0], .bool false]) (by simp [results, Try.results25, go_sem]) rfl ⟨rfl, (((Below.refl _ _).alloc (Nat.le_refl _) _).alloc (by simp; try omega) _)⟩

set_option maxRecDepth 100000 in
set_option maxHeartbeats 2000000 in
theorem rrest_some (ob : ByteArray) (fa fb : Int) (ft : ByteArray) (fk : Bool) (nt : ByteArray) (nk : Bool) (p q : Int) (w : World) (hs : (p == q) = false) : Calls Try.prog 25 #[.agg #[.string ob, .int .i64 fa, .int .i64 fb, .string ft, .bool fk, .string nt, .bool nk, .int .i64 1, .int .i64 p, .int .i64 q]] w (SpanBool p q true w) := by
  go_enter Try.func25, Try.ntmps25
  go_wp2
  exact bodyPost_ret (v := .tuple #[.agg #[.int .i64 p, .int .i64 q], .bool true]) (by simp [results, Try.results25, go_sem]) rfl ⟨rfl, (((Below.refl _ _).alloc (Nat.le_refl _) _).alloc (by simp; try omega) _)⟩

set_option maxRecDepth 100000 in
set_option maxHeartbeats 2000000 in
theorem rclose_over (ob : ByteArray) (fa fb : Int) (ft : ByteArray) (fk : Bool) (nt : ByteArray) (nk : Bool) (p q : Int) (b : Bool) (w : World)  : Calls Try.prog 23 #[.agg #[.string ob, .int .i64 fa, .int .i64 fb, .string ft, .bool fk, .string nt, .bool nk, .int .i64 2, .int .i64 p, .int .i64 q], .bool b] w (AggInt #[.string ob, .int .i64 fa, .int .i64 fb, .string ft, .bool fk, .string nt, .bool nk, .int .i64 2, .int .i64 p, .int .i64 q] 11 w) := by
  go_enter Try.func23, Try.ntmps23
  go_wp2
  exact bodyPost_ret (v := .tuple #[.agg #[.string ob, .int .i64 fa, .int .i64 fb, .string ft, .bool fk, .string nt, .bool nk, .int .i64 2, .int .i64 p, .int .i64 q], .int .i64 11]) (by simp [results, Try.results23, go_sem]) rfl ⟨rfl, (((Below.refl _ _).alloc (Nat.le_refl _) _).alloc (by simp; try omega) _)⟩

set_option maxRecDepth 100000 in
set_option maxHeartbeats 2000000 in
theorem rclose_asked (ob : ByteArray) (fa fb : Int) (ft : ByteArray) (fk : Bool) (nt : ByteArray) (nk : Bool) (p q : Int) (b : Bool) (w : World)  : Calls Try.prog 23 #[.agg #[.string ob, .int .i64 fa, .int .i64 fb, .string ft, .bool fk, .string nt, .bool nk, .int .i64 0, .int .i64 p, .int .i64 q], .bool b] w (AggInt #[.string ob, .int .i64 fa, .int .i64 fb, .string ft, .bool fk, .string nt, .bool nk, .int .i64 2, .int .i64 p, .int .i64 q] 13 w) := by
  go_enter Try.func23, Try.ntmps23
  go_wp2
  exact bodyPost_ret (v := .tuple #[.agg #[.string ob, .int .i64 fa, .int .i64 fb, .string ft, .bool fk, .string nt, .bool nk, .int .i64 2, .int .i64 p, .int .i64 q], .int .i64 13]) (by simp [results, Try.results23, go_sem]) rfl ⟨rfl, (((Below.refl _ _).alloc (Nat.le_refl _) _).alloc (by simp; try omega) _)⟩

set_option maxRecDepth 100000 in
set_option maxHeartbeats 2000000 in
theorem rclose_heard (ob : ByteArray) (fa fb : Int) (ft : ByteArray) (fk : Bool) (nt : ByteArray) (nk : Bool) (p q : Int) (b : Bool) (w : World) (h1 : p ≤ q) : Calls Try.prog 23 #[.agg #[.string ob, .int .i64 fa, .int .i64 fb, .string ft, .bool fk, .string nt, .bool nk, .int .i64 1, .int .i64 p, .int .i64 q], .bool b] w (AggInt #[.string ob, .int .i64 fa, .int .i64 fb, .string ft, .bool fk, .string nt, .bool nk, .int .i64 2, .int .i64 p, .int .i64 q] (closeV true b p q) w) := by
  cases b
  · have hx : closeV true false p q = 13 := by unfold closeV; rfl
    rw [hx]
    clear hx
    go_enter Try.func23, Try.ntmps23
    go_wp2
    exact bodyPost_ret (v := .tuple #[.agg #[.string ob, .int .i64 fa, .int .i64 fb, .string ft, .bool fk, .string nt, .bool nk, .int .i64 2, .int .i64 p, .int .i64 q], .int .i64 13]) (by simp [results, Try.results23, go_sem]) rfl ⟨rfl, (((Below.refl _ _).alloc (Nat.le_refl _) _).alloc (by simp; try omega) _)⟩
  · by_cases n1 : p = q
    · have d1 : decide (p < q) = false := by simp; omega
      have e1 : (p == q) = true := by simpa using n1
      have hx : closeV true true p q = 0 := by unfold closeV; rw [d1]; rfl
      rw [hx]
      clear hx n1 d1
      go_enter Try.func23, Try.ntmps23
      go_wp2
      exact bodyPost_ret (v := .tuple #[.agg #[.string ob, .int .i64 fa, .int .i64 fb, .string ft, .bool fk, .string nt, .bool nk, .int .i64 2, .int .i64 p, .int .i64 q], .int .i64 0]) (by simp [results, Try.results23, go_sem]) rfl ⟨rfl, (((Below.refl _ _).alloc (Nat.le_refl _) _).alloc (by simp; try omega) _)⟩
    · have d1 : decide (p < q) = true := by simp; omega
      have e1 : (p == q) = false := by simpa using n1
      by_cases n2 : q = 4611686018427387904
      · have d2 : (q != 4611686018427387904) = false := by simpa using n2
        have e2 : (q == 4611686018427387904) = true := by simpa using n2
        have hx : closeV true true p q = 0 := by unfold closeV; rw [d1, d2]; rfl
        rw [hx]
        clear hx n1 n2 d1 d2
        go_enter Try.func23, Try.ntmps23
        go_wp2
        exact bodyPost_ret (v := .tuple #[.agg #[.string ob, .int .i64 fa, .int .i64 fb, .string ft, .bool fk, .string nt, .bool nk, .int .i64 2, .int .i64 p, .int .i64 q], .int .i64 0]) (by simp [results, Try.results23, go_sem]) rfl ⟨rfl, (((Below.refl _ _).alloc (Nat.le_refl _) _).alloc (by simp; try omega) _)⟩
      · have d2 : (q != 4611686018427387904) = true := by simpa using n2
        have e2 : (q == 4611686018427387904) = false := by simpa using n2
        have hx : closeV true true p q = 13 := by unfold closeV; rw [d1, d2]; rfl
        rw [hx]
        clear hx n1 n2 d1 d2
        go_enter Try.func23, Try.ntmps23
        go_wp2
        exact bodyPost_ret (v := .tuple #[.agg #[.string ob, .int .i64 fa, .int .i64 fb, .string ft, .bool fk, .string nt, .bool nk, .int .i64 2, .int .i64 p, .int .i64 q], .int .i64 13]) (by simp [results, Try.results23, go_sem]) rfl ⟨rfl, (((Below.refl _ _).alloc (Nat.le_refl _) _).alloc (by simp; try omega) _)⟩

set_option maxRecDepth 100000 in
set_option maxHeartbeats 2000000 in
theorem rreply_idle (ob : ByteArray) (fa fb : Int) (ft : ByteArray) (fk : Bool) (nt : ByteArray) (nk : Bool) (st : Int) (mt : ByteArray) (mk : Bool) (md ln hv fr wh er : Int) (kv : Value) (tn : ByteArray) (kp : Bool) (sa sb ag : Int) (s p q : Int) (w : World) (hs : (s != 0) = true) : Calls Try.prog 19 #[.agg #[.string ob, .int .i64 fa, .int .i64 fb, .string ft, .bool fk, .string nt, .bool nk, .int .i64 s, .int .i64 p, .int .i64 q], .agg #[.int .i64 st, .string mt, .bool mk, .int .i64 md, .int .i64 ln, .int .i64 hv, .int .i64 fr, .int .i64 wh, .int .i64 er, kv, .string tn, .bool kp, .int .i64 sa, .int .i64 sb, .int .i64 ag]] w (AggInts #[.string ob, .int .i64 fa, .int .i64 fb, .string ft, .bool fk, .string nt, .bool nk, .int .i64 s, .int .i64 p, .int .i64 q] 0 11 w) := by
  go_enter Try.func19, Try.ntmps19
  go_wp2
  exact bodyPost_ret (v := .tuple #[.agg #[.string ob, .int .i64 fa, .int .i64 fb, .string ft, .bool fk, .string nt, .bool nk, .int .i64 s, .int .i64 p, .int .i64 q], .int .i64 0, .int .i64 11]) (by simp [results, Try.results19, go_sem]) rfl ⟨rfl, ((((Below.refl _ _).alloc (Nat.le_refl _) _).alloc (by simp; try omega) _).alloc (by simp; try omega) _)⟩

end Go.Proofs.Ytdbocpgkedgpcaa
