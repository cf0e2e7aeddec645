/-
  What is told of a fetch that stays as it is: the program's functions.
-/
import Derived.Test.YtdbocpgkedgpcaaFetM
import Derived.IntWalk
namespace Go.Proofs.Ytdbocpgkedgpcaa
open Go.RowKit
set_option linter.unusedVariables false
set_option linter.unusedSimpArgs false

theorem set_heard {w : World} {g : Nat} {t : TypeId} {x0 x1 x2 x3 x4 x5 x6 x7 x8 x9 x10 a b c : Value} (h : Blk w g t #[x0, x1, x2, x3, x4, x5, x6, x7, x8, x9, x10]) : Blk (((w.setCell ⟨g, 7, none⟩ a).setCell ⟨g, 9, none⟩ b).setCell ⟨g, 10, none⟩ c) g t #[x0, x1, x2, x3, x4, x5, x6, a, x8, b, c] := by
  have h3 := h.set_ 7 a
  rw [show (#[x0, x1, x2, x3, x4, x5, x6, x7, x8, x9, x10] : Array Value).setIfInBounds 7 a = #[x0, x1, x2, x3, x4, x5, x6, a, x8, x9, x10] from rfl] at h3
  have h4 := h3.set_ 9 b
  rw [show (#[x0, x1, x2, x3, x4, x5, x6, a, x8, x9, x10] : Array Value).setIfInBounds 9 b = #[x0, x1, x2, x3, x4, x5, x6, a, x8, b, x10] from rfl] at h4
  have h5 := h4.set_ 10 c
  rw [show (#[x0, x1, x2, x3, x4, x5, x6, a, x8, b, x10] : Array Value).setIfInBounds 10 c = #[x0, x1, x2, x3, x4, x5, x6, a, x8, b, c] from rfl] at h5
  exact h5
theorem set_over {w : World} {g : Nat} {t : TypeId} {x0 x1 x2 x3 x4 x5 x6 x7 x8 x9 x10 a : Value} (h : Blk w g t #[x0, x1, x2, x3, x4, x5, x6, x7, x8, x9, x10]) : Blk (w.setCell ⟨g, 8, none⟩ a) g t #[x0, x1, x2, x3, x4, x5, x6, x7, a, x9, x10] := by
  have h3 := h.set_ 8 a
  rwa [show (#[x0, x1, x2, x3, x4, x5, x6, x7, x8, x9, x10] : Array Value).setIfInBounds 8 a = #[x0, x1, x2, x3, x4, x5, x6, x7, a, x9, x10] from rfl] at h3
theorem set_from {w : World} {g : Nat} {t : TypeId} {x0 x1 x2 x3 x4 x5 x6 x7 x8 x9 x10 a : Value} (h : Blk w g t #[x0, x1, x2, x3, x4, x5, x6, x7, x8, x9, x10]) : Blk (w.setCell ⟨g, 9, none⟩ a) g t #[x0, x1, x2, x3, x4, x5, x6, x7, x8, a, x10] := by
  have h3 := h.set_ 9 a
  rwa [show (#[x0, x1, x2, x3, x4, x5, x6, x7, x8, x9, x10] : Array Value).setIfInBounds 9 a = #[x0, x1, x2, x3, x4, x5, x6, x7, x8, a, x10] from rfl] at h3

set_option maxRecDepth 100000 in
set_option maxHeartbeats 4000000 in
theorem over_any (ob : ByteArray) (fa fb : Int) (ft : ByteArray) (fk : Bool) (nt : ByteArray) (nk : Bool) (h o : Bool) (p q : Int) (g : Nat) (w : World) (X : Blk w g 74 #[.string ob, .int .i64 fa, .int .i64 fb, .string ft, .bool fk, .string nt, .bool nk, .bool h, .bool o, .int .i64 p, .int .i64 q])  : Calls Try.prog 26 #[.pointer (some ⟨g, 0, none⟩)] w (BoolOk o w) := by
  have cX := X.cell
  have fX := X.frozen
  have lX := X.lt
  go_enter Try.func26, Try.ntmps26
  go_wp2
  go_ret
  exact ⟨rfl, Below.refl _ _⟩

set_option maxRecDepth 100000 in
set_option maxHeartbeats 4000000 in
theorem reply_idle (ob : ByteArray) (fa fb : Int) (ft : ByteArray) (fk : Bool) (nt : ByteArray) (nk : Bool) (h o : Bool) (p q : Int) (st : Int) (mt : ByteArray) (mk : Bool) (md ln hv fr wh er : Int) (kv : Value) (tn : ByteArray) (kp : Bool) (sa sb ag : Int) (g : Nat) (w : World) (X : Blk w g 74 #[.string ob, .int .i64 fa, .int .i64 fb, .string ft, .bool fk, .string nt, .bool nk, .bool h, .bool o, .int .i64 p, .int .i64 q]) (hi : (h || o) = true) : Calls Try.prog 18 #[.pointer (some ⟨g, 0, none⟩), .agg #[.int .i64 st, .string mt, .bool mk, .int .i64 md, .int .i64 ln, .int .i64 hv, .int .i64 fr, .int .i64 wh, .int .i64 er, kv, .string tn, .bool kp, .int .i64 sa, .int .i64 sb, .int .i64 ag]] w (TwoInts 0 11 w) := by
  have cX := X.cell
  have fX := X.frozen
  have lX := X.lt
  cases h <;> cases o <;> first | (exact absurd hi (by decide)) | skip
  all_goals clear hi
  all_goals
    go_enter Try.func18, Try.ntmps18
    go_wp2_with fail
    go_ret2
    exact ⟨rfl, (Below.refl _ _).alloc (Nat.le_refl _) _⟩

set_option maxRecDepth 100000 in
set_option maxHeartbeats 4000000 in
theorem data_idle (ob : ByteArray) (fa fb : Int) (ft : ByteArray) (fk : Bool) (nt : ByteArray) (nk : Bool) (h o : Bool) (p q : Int) (n : Int) (g : Nat) (w : World) (X : Blk w g 74 #[.string ob, .int .i64 fa, .int .i64 fb, .string ft, .bool fk, .string nt, .bool nk, .bool h, .bool o, .int .i64 p, .int .i64 q]) (hi : (h && !o) = false) : Calls Try.prog 20 #[.pointer (some ⟨g, 0, none⟩), .int .i64 n] w (SpanInt 0 0 11 w) := by
  have cX := X.cell
  have fX := X.frozen
  have lX := X.lt
  cases h <;> cases o <;> first | (exact absurd hi (by decide)) | skip
  all_goals clear hi
  all_goals
    go_enter Try.func20, Try.ntmps20
    go_wp2_with fail
    exact bodyPost_ret (v := .tuple #[.agg #[.int .i64 0, .int .i64 0], .int .i64 11]) (by simp [results, Try.results20, go_sem]) rfl ⟨rfl, (Below.refl _ _).alloc (Nat.le_refl _) _⟩

set_option maxRecDepth 100000 in
set_option maxHeartbeats 4000000 in
theorem data_low (ob : ByteArray) (fa fb : Int) (ft : ByteArray) (fk : Bool) (nt : ByteArray) (nk : Bool) (p q n : Int) (g : Nat) (w : World) (X : Blk w g 74 #[.string ob, .int .i64 fa, .int .i64 fb, .string ft, .bool fk, .string nt, .bool nk, .bool true, .bool false, .int .i64 p, .int .i64 q]) (hn : n < 1) : Calls Try.prog 20 #[.pointer (some ⟨g, 0, none⟩), .int .i64 n] w (SpanInt 0 0 1 w) := by
  have cX := X.cell
  have fX := X.frozen
  have lX := X.lt
  go_enter Try.func20, Try.ntmps20
  go_wp2
  exact bodyPost_ret (v := .tuple #[.agg #[.int .i64 0, .int .i64 0], .int .i64 1]) (by simp [results, Try.results20, go_sem]) rfl ⟨rfl, (Below.refl _ _).alloc (Nat.le_refl _) _⟩

set_option maxRecDepth 100000 in
set_option maxHeartbeats 4000000 in
theorem data_many (ob : ByteArray) (fa fb : Int) (ft : ByteArray) (fk : Bool) (nt : ByteArray) (nk : Bool) (p q n : Int) (g : Nat) (w : World) (X : Blk w g 74 #[.string ob, .int .i64 fa, .int .i64 fb, .string ft, .bool fk, .string nt, .bool nk, .bool true, .bool false, .int .i64 p, .int .i64 q]) (h0 : 0 ≤ p) (h1 : p ≤ q) (h2 : q ≤ 4611686018427387904) (hn : ¬ n < 1) (hm : q - p < n) : Calls Try.prog 20 #[.pointer (some ⟨g, 0, none⟩), .int .i64 n] w (SpanInt 0 0 4 w) := by
  have cX := X.cell
  have fX := X.frozen
  have lX := X.lt
  have dm : decide (q - p < n) = true := by simpa using hm
  have dw : IntKind.i64.wrap (q - p) = q - p := IntWalk.i64_in _ (by omega)
  go_enter Try.func20, Try.ntmps20
  go_wp2_with fail
  go_quiet (fail)
  clear dw
  go_wp2
  exact bodyPost_ret (v := .tuple #[.agg #[.int .i64 0, .int .i64 0], .int .i64 4]) (by simp [results, Try.results20, go_sem]) rfl ⟨rfl, below_set (below_set (below_drewN ((Below.refl _ _).alloc (Nat.le_refl _) _) _) (Nat.le_refl _) _) (Nat.le_refl _) _⟩

set_option maxRecDepth 100000 in
set_option maxHeartbeats 4000000 in
theorem rest_idle (ob : ByteArray) (fa fb : Int) (ft : ByteArray) (fk : Bool) (nt : ByteArray) (nk : Bool) (h o : Bool) (p q : Int) (g : Nat) (w : World) (X : Blk w g 74 #[.string ob, .int .i64 fa, .int .i64 fb, .string ft, .bool fk, .string nt, .bool nk, .bool h, .bool o, .int .i64 p, .int .i64 q]) (hi : (h && !o && (p != q)) = false) : Calls Try.prog 24 #[.pointer (some ⟨g, 0, none⟩)] w (SpanBool 0 0 false w) := by
  have cX := X.cell
  have fX := X.frozen
  have lX := X.lt
  by_cases e : p = q
  · subst e
    clear hi
    have e1 : (p == p) = true := by simp
    cases h <;> cases o
    all_goals
      go_enter Try.func24, Try.ntmps24
      go_wp2_with fail
      go_quiet (fail)
      go_wp2
      exact bodyPost_ret (v := .tuple #[.agg #[.int .i64 0, .int .i64 0], .bool false]) (by simp [results, Try.results24, go_sem]) rfl ⟨rfl, below_set (below_set (below_drewN ((Below.refl _ _).alloc (Nat.le_refl _) _) _) (Nat.le_refl _) _) (Nat.le_refl _) _⟩
  · have e1 : (p == q) = false := by simpa using e
    have e2 : (p != q) = true := by simpa using e
    cases h <;> cases o
    case neg.true.false => rw [e2] at hi; exact absurd hi (by decide)
    all_goals clear hi e
    all_goals
      go_enter Try.func24, Try.ntmps24
      go_wp2_with fail
      go_quiet (fail)
      go_wp2
      exact bodyPost_ret (v := .tuple #[.agg #[.int .i64 0, .int .i64 0], .bool false]) (by simp [results, Try.results24, go_sem]) rfl ⟨rfl, below_set (below_set (below_drewN ((Below.refl _ _).alloc (Nat.le_refl _) _) _) (Nat.le_refl _) _) (Nat.le_refl _) _⟩

set_option maxRecDepth 100000 in
set_option maxHeartbeats 4000000 in
theorem rest_some (ob : ByteArray) (fa fb : Int) (ft : ByteArray) (fk : Bool) (nt : ByteArray) (nk : Bool) (p q : Int) (g : Nat) (w : World) (X : Blk w g 74 #[.string ob, .int .i64 fa, .int .i64 fb, .string ft, .bool fk, .string nt, .bool nk, .bool true, .bool false, .int .i64 p, .int .i64 q]) (hi : (p == q) = false) : Calls Try.prog 24 #[.pointer (some ⟨g, 0, none⟩)] w (SpanBool p q true w) := by
  have cX := X.cell
  have fX := X.frozen
  have lX := X.lt
  go_enter Try.func24, Try.ntmps24
  go_wp2_with fail
  go_quiet (fail)
  go_wp2
  exact bodyPost_ret (v := .tuple #[.agg #[.int .i64 p, .int .i64 q], .bool true]) (by simp [results, Try.results24, go_sem]) rfl ⟨rfl, below_set (below_set (below_drewN ((Below.refl _ _).alloc (Nat.le_refl _) _) _) (Nat.le_refl _) _) (Nat.le_refl _) _⟩

end Go.Proofs.Ytdbocpgkedgpcaa
