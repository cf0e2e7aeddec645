/-
  What is told of a fetch that turns: the program's functions.
-/
import Derived.Test.YtdbocpgkedgpcaaFetN
namespace Go.Proofs.Ytdbocpgkedgpcaa
open Go.RowKit
set_option linter.unusedVariables false
set_option linter.unusedSimpArgs false

set_option maxRecDepth 100000 in
set_option maxHeartbeats 8000000 in
theorem reply_new (ob : ByteArray) (fa fb : Int) (ft : ByteArray) (fk : Bool) (nt : ByteArray) (nk : Bool) (st : Int) (mt : ByteArray) (mk : Bool) (md ln hv fr wh er : Int) (kv : Value) (tn : ByteArray) (kp : Bool) (sa sb ag : Int) (ks : List ByteArray) (p q : Int) (g : Nat) (w : World) (X : Blk w g 74 #[.string ob, .int .i64 fa, .int .i64 fb, .string ft, .bool fk, .string nt, .bool nk, .bool false, .bool false, .int .i64 p, .int .i64 q]) (hob : ob.size ≤ 9223372036854775807) (hft : ft.size ≤ 9223372036854775807) (hnt : nt.size ≤ 9223372036854775807) (hmt : mt.size ≤ 9223372036854775807) (htn : tn.size ≤ 9223372036854775807) (hr : RdStrs w w.heap.size kv ks) (hg : g ≠ w.heap.size) (hv' : readV ob fa fb (ft, fk) (nt, nk) st mt mk md ln hv fr wh er ks tn sa sb ag = 1) : Calls Try.prog 18 #[.pointer (some ⟨g, 0, none⟩), .agg #[.int .i64 st, .string mt, .bool mk, .int .i64 md, .int .i64 ln, .int .i64 hv, .int .i64 fr, .int .i64 wh, .int .i64 er, kv, .string tn, .bool kp, .int .i64 sa, .int .i64 sb, .int .i64 ag]] w (XInts g #[.string ob, .int .i64 fa, .int .i64 fb, .string ft, .bool fk, .string nt, .bool nk, .bool true, .bool false, .int .i64 sa, .int .i64 sb] 1 0 w) := by
  obtain ⟨A, c, rfl, hkc0, hc0⟩ := hr.form
  have cX := X.cell
  have lX := X.lt
  go_enter Try.func18, Try.ntmps18
  go_upto_region 3 with fail
  obtain ⟨w1, hw1⟩ : ∃ w1 : World, w1 = w.alloc (.cells #[.int .i64 st, .string mt, .bool mk, .int .i64 md, .int .i64 ln, .int .i64 hv, .int .i64 fr, .int .i64 wh, .int .i64 er, .slice A ks.length c, .string tn, .bool kp, .int .i64 sa, .int .i64 sb, .int .i64 ag] 32) := ⟨_, rfl⟩
  rw [← hw1]
  have hB1 : Below w.heap.size w w1 := by rw [hw1]; exact (Below.refl _ _).alloc (Nat.le_refl _) _
  have P : Blk w1 w.heap.size 32 #[.int .i64 st, .string mt, .bool mk, .int .i64 md, .int .i64 ln, .int .i64 hv, .int .i64 fr, .int .i64 wh, .int .i64 er, .slice A ks.length c, .string tn, .bool kp, .int .i64 sa, .int .i64 sb, .int .i64 ag] := by rw [hw1]; exact Blk.new _ _ _
  have X1 : Blk w1 g 74 #[.string ob, .int .i64 fa, .int .i64 fb, .string ft, .bool fk, .string nt, .bool nk, .bool false, .bool false, .int .i64 p, .int .i64 q] := by rw [hw1]; exact X.alloc _
  have R1 := hide ((hr.below hB1).mono hB1.size)
  have hBut : But g w w1 := But.of_below lX hB1
  clear hw1 hr cX
  have q0 : ∀ (x : Bel w1.heap.size w1) i, x.w.cell? ⟨w.heap.size, i, none⟩ = (#[.int .i64 st, .string mt, .bool mk, .int .i64 md, .int .i64 ln, .int .i64 hv, .int .i64 fr, .int .i64 wh, .int .i64 er, .slice A ks.length c, .string tn, .bool kp, .int .i64 sa, .int .i64 sb, .int .i64 ag] : Array Value)[i]? := fun x i => (P.below x.h P.lt).cell i
  have q1 : ∀ (x : Bel w1.heap.size w1) i, x.w.cell? ⟨g, i, none⟩ = (#[.string ob, .int .i64 fa, .int .i64 fb, .string ft, .bool fk, .string nt, .bool nk, .bool false, .bool false, .int .i64 p, .int .i64 q] : Array Value)[i]? := fun x i => (X1.below x.h X1.lt).cell i
  have HR := hide (show ∀ x : Bel w1.heap.size w1, Calls Try.prog 14 #[.agg #[.string ob, .int .i64 fa, .int .i64 fb, .string ft, .bool fk, .string nt, .bool nk], .agg #[.int .i64 st, .string mt, .bool mk, .int .i64 md, .int .i64 ln, .int .i64 hv, .int .i64 fr, .int .i64 wh, .int .i64 er, .slice A ks.length c, .string tn, .bool kp, .int .i64 sa, .int .i64 sb, .int .i64 ag]] x.w (IntOk 1 x.w) from fun x => hv' ▸ read_any ob fa fb ft fk nt nk st mt mk md ln hv fr wh er _ tn kp sa sb ag ks x.w hob hft hnt hmt htn ((R1.out.below x.h).mono x.h.size))
  clear hv'
  refine wp_region_bel w1.heap.size (by kernel_rfl) (by kernel_rfl) ?_
  repeat (go_big_quiet_step ((go_at_call 14; exact bel_call (Nat.le_refl _) (HR.out _))))
  refine wpQuiet_nil ?_
  rintro w5 ⟨⟨_, hb5⟩, rfl⟩
  have P5 := P.below hb5 P.lt
  have X5 := X1.below hb5 X1.lt
  replace hBut := hBut.trans (But.of_below X1.lt hb5)
  clear P X1 R1 hB1 hb5 q0 q1 HR
  go_wp2_with fail
  have cX := X5.cell
  have fX := X5.frozen
  have cP := P5.cell
  have lX5 := X5.lt
  have lP5 := P5.lt
  have n1 : w.heap.size ≠ g := fun e => hg e.symm
  go_cut [] (fun wx => Blk wx g 74 #[.string ob, .int .i64 fa, .int .i64 fb, .string ft, .bool fk, .string nt, .bool nk, .bool true, .bool false, .int .i64 sa, .int .i64 sb] ∧ But g w5 wx)
  case first =>
    go_region
    all_goals (go_wp2_with fail; go_meet)
    all_goals exact ⟨(set_heard X5).drew, ((((But.refl _ _).set_ _).set_ _).set_ _).drew⟩
  case rest =>
    obtain ⟨X6, hb6⟩ := hcut
    go_wp2
    go_ret2
    exact ⟨rfl, X6, hBut.trans hb6⟩

set_option maxRecDepth 100000 in
set_option maxHeartbeats 8000000 in
theorem reply_other (ob : ByteArray) (fa fb : Int) (ft : ByteArray) (fk : Bool) (nt : ByteArray) (nk : Bool) (st : Int) (mt : ByteArray) (mk : Bool) (md ln hv fr wh er : Int) (kv : Value) (tn : ByteArray) (kp : Bool) (sa sb ag : Int) (ks : List ByteArray) (p q : Int) (g : Nat) (w : World) (X : Blk w g 74 #[.string ob, .int .i64 fa, .int .i64 fb, .string ft, .bool fk, .string nt, .bool nk, .bool false, .bool false, .int .i64 p, .int .i64 q]) (hob : ob.size ≤ 9223372036854775807) (hft : ft.size ≤ 9223372036854775807) (hnt : nt.size ≤ 9223372036854775807) (hmt : mt.size ≤ 9223372036854775807) (htn : tn.size ≤ 9223372036854775807) (hr : RdStrs w w.heap.size kv ks) (v : Int) (hv' : readV ob fa fb (ft, fk) (nt, nk) st mt mk md ln hv fr wh er ks tn sa sb ag = v) (hne : (v == 1) = false) : Calls Try.prog 18 #[.pointer (some ⟨g, 0, none⟩), .agg #[.int .i64 st, .string mt, .bool mk, .int .i64 md, .int .i64 ln, .int .i64 hv, .int .i64 fr, .int .i64 wh, .int .i64 er, kv, .string tn, .bool kp, .int .i64 sa, .int .i64 sb, .int .i64 ag]] w (XInts g #[.string ob, .int .i64 fa, .int .i64 fb, .string ft, .bool fk, .string nt, .bool nk, .bool false, .bool true, .int .i64 p, .int .i64 q] v 0 w) := by
  obtain ⟨A, c, rfl, hkc0, hc0⟩ := hr.form
  have cX := X.cell
  have lX := X.lt
  go_enter Try.func18, Try.ntmps18
  go_upto_region 3 with fail
  obtain ⟨w1, hw1⟩ : ∃ w1 : World, w1 = w.alloc (.cells #[.int .i64 st, .string mt, .bool mk, .int .i64 md, .int .i64 ln, .int .i64 hv, .int .i64 fr, .int .i64 wh, .int .i64 er, .slice A ks.length c, .string tn, .bool kp, .int .i64 sa, .int .i64 sb, .int .i64 ag] 32) := ⟨_, rfl⟩
  rw [← hw1]
  have hB1 : Below w.heap.size w w1 := by rw [hw1]; exact (Below.refl _ _).alloc (Nat.le_refl _) _
  have P : Blk w1 w.heap.size 32 #[.int .i64 st, .string mt, .bool mk, .int .i64 md, .int .i64 ln, .int .i64 hv, .int .i64 fr, .int .i64 wh, .int .i64 er, .slice A ks.length c, .string tn, .bool kp, .int .i64 sa, .int .i64 sb, .int .i64 ag] := by rw [hw1]; exact Blk.new _ _ _
  have X1 : Blk w1 g 74 #[.string ob, .int .i64 fa, .int .i64 fb, .string ft, .bool fk, .string nt, .bool nk, .bool false, .bool false, .int .i64 p, .int .i64 q] := by rw [hw1]; exact X.alloc _
  have R1 := hide ((hr.below hB1).mono hB1.size)
  have hBut : But g w w1 := But.of_below lX hB1
  clear hw1 hr cX
  have q0 : ∀ (x : Bel w1.heap.size w1) i, x.w.cell? ⟨w.heap.size, i, none⟩ = (#[.int .i64 st, .string mt, .bool mk, .int .i64 md, .int .i64 ln, .int .i64 hv, .int .i64 fr, .int .i64 wh, .int .i64 er, .slice A ks.length c, .string tn, .bool kp, .int .i64 sa, .int .i64 sb, .int .i64 ag] : Array Value)[i]? := fun x i => (P.below x.h P.lt).cell i
  have q1 : ∀ (x : Bel w1.heap.size w1) i, x.w.cell? ⟨g, i, none⟩ = (#[.string ob, .int .i64 fa, .int .i64 fb, .string ft, .bool fk, .string nt, .bool nk, .bool false, .bool false, .int .i64 p, .int .i64 q] : Array Value)[i]? := fun x i => (X1.below x.h X1.lt).cell i
  have HR := hide (show ∀ x : Bel w1.heap.size w1, Calls Try.prog 14 #[.agg #[.string ob, .int .i64 fa, .int .i64 fb, .string ft, .bool fk, .string nt, .bool nk], .agg #[.int .i64 st, .string mt, .bool mk, .int .i64 md, .int .i64 ln, .int .i64 hv, .int .i64 fr, .int .i64 wh, .int .i64 er, .slice A ks.length c, .string tn, .bool kp, .int .i64 sa, .int .i64 sb, .int .i64 ag]] x.w (IntOk v x.w) from fun x => hv' ▸ read_any ob fa fb ft fk nt nk st mt mk md ln hv fr wh er _ tn kp sa sb ag ks x.w hob hft hnt hmt htn ((R1.out.below x.h).mono x.h.size))
  clear hv'
  refine wp_region_bel w1.heap.size (by kernel_rfl) (by kernel_rfl) ?_
  repeat (go_big_quiet_step ((go_at_call 14; exact bel_call (Nat.le_refl _) (HR.out _))))
  refine wpQuiet_nil ?_
  rintro w5 ⟨⟨_, hb5⟩, rfl⟩
  have P5 := P.below hb5 P.lt
  have X5 := X1.below hb5 X1.lt
  replace hBut := hBut.trans (But.of_below X1.lt hb5)
  clear P X1 R1 hB1 hb5 q0 q1 HR
  have cX := X5.cell
  have fX := X5.frozen
  have lX5 := X5.lt
  go_wp2
  go_ret2
  exact ⟨rfl, set_over X5, hBut.trans ((But.refl _ _).set_ _)⟩

set_option maxRecDepth 100000 in
set_option maxHeartbeats 4000000 in
theorem data_ok (ob : ByteArray) (fa fb : Int) (ft : ByteArray) (fk : Bool) (nt : ByteArray) (nk : Bool) (p q n : Int) (g : Nat) (w : World) (X : Blk w g 74 #[.string ob, .int .i64 fa, .int .i64 fb, .string ft, .bool fk, .string nt, .bool nk, .bool true, .bool false, .int .i64 p, .int .i64 q]) (h0 : 0 ≤ p) (h1 : p ≤ q) (h2 : q ≤ 4611686018427387904) (hn : ¬ n < 1) (hm : n ≤ q - p) : Calls Try.prog 20 #[.pointer (some ⟨g, 0, none⟩), .int .i64 n] w (XSpan g #[.string ob, .int .i64 fa, .int .i64 fb, .string ft, .bool fk, .string nt, .bool nk, .bool true, .bool false, .int .i64 (p + n), .int .i64 q] p (p + n) 0 w) := by
  have cX := X.cell
  have fX := X.frozen
  have lX := X.lt
  have dm : decide (q - p < n) = false := by simp; omega
  have dw : IntKind.i64.wrap (q - p) = q - p := IntWalk.i64_in _ (by omega)
  go_enter Try.func20, Try.ntmps20
  go_upto_region 5 with fail
  go_quiet (fail)
  clear dw
  go_upto_region 7 with fail
  obtain ⟨w1, hw1⟩ : ∃ w1 : World, w1 = (w.alloc (.cells #[.int .i64 0, .int .i64 0] 23)).drewN nq := ⟨_, rfl⟩
  rw [← hw1]
  have X1 : Blk w1 g 74 #[.string ob, .int .i64 fa, .int .i64 fb, .string ft, .bool fk, .string nt, .bool nk, .bool true, .bool false, .int .i64 p, .int .i64 q] := by rw [hw1]; exact (X.alloc _).drewN _
  have S1 : Blk w1 w.heap.size 23 #[.int .i64 0, .int .i64 0] := by rw [hw1]; exact (Blk.new _ _ _).drewN _
  have hBut : But g w w1 := by rw [hw1]; exact ((But.refl _ _).alloc lX _).drewN _
  have n1 : w.heap.size ≠ g := by omega
  have n2 : g ≠ w.heap.size := by omega
  clear hw1 cX fX
  have cX := X1.cell
  have lX1 := X1.lt
  have lS1 := S1.lt
  have cX2 := fun ob' i => (X1.alloc ob').cell i
  go_cut [6] (fun s wx => ∃ k : Nat, s = .pointer (some ⟨k, 0, none⟩) ∧ k ≠ g ∧ k ≠ w.heap.size ∧ Blk wx k 23 #[.int .i64 p, .int .i64 (p + n)] ∧ Blk wx g 74 #[.string ob, .int .i64 fa, .int .i64 fb, .string ft, .bool fk, .string nt, .bool nk, .bool true, .bool false, .int .i64 p, .int .i64 q] ∧ Blk wx w.heap.size 23 #[.int .i64 0, .int .i64 0] ∧ But g w1 wx)
  case first =>
    go_region
    all_goals (go_wp2_with fail; go_meet)
    all_goals exact ⟨_, rfl, by omega, by omega, (Blk.new _ _ _).drew, (X1.alloc _).drew, (S1.alloc _).drew, ((But.refl _ _).alloc lX1 _).drew⟩
  case rest =>
    obtain ⟨k, rfl, k1, k2, K, X2, S2, hb2⟩ := hcut
    clear cX cX2
    have cX := X2.cell
    have fX := X2.frozen
    have cK := K.cell
    have cS := S2.cell
    have fS := S2.frozen
    have lX2 := X2.lt
    have lK := K.lt
    have lS := S2.lt
    have k3 : g ≠ k := fun e => k1 e.symm
    have k4 : w.heap.size ≠ k := fun e => k2 e.symm
    go_wp2
    exact bodyPost_ret (v := .tuple #[.agg #[.int .i64 p, .int .i64 (p + n)], .int .i64 0]) (by simp [results, Try.results20, go_sem, cS, lS, lX2, n1, n2]) rfl ⟨rfl, ((set_from X2).far (by show g ≠ w.heap.size; omega) _).far (by show g ≠ w.heap.size; omega) _, (((hBut.trans hb2).set_ _).set_new lX (Nat.le_refl _) _).set_new lX (Nat.le_refl _) _⟩

set_option maxRecDepth 100000 in
set_option maxHeartbeats 1000000 in
theorem close_over (ob : ByteArray) (fa fb : Int) (ft : ByteArray) (fk : Bool) (nt : ByteArray) (nk : Bool) (h : Bool) (p q : Int) (b : Bool) (g : Nat) (w : World) (X : Blk w g 74 #[.string ob, .int .i64 fa, .int .i64 fb, .string ft, .bool fk, .string nt, .bool nk, .bool h, .bool true, .int .i64 p, .int .i64 q]) : Calls Try.prog 22 #[.pointer (some ⟨g, 0, none⟩), .bool b] w (IntOk 11 w) := by
  have cX := X.cell
  have fX := X.frozen
  have lX := X.lt
  go_enter Try.func22, Try.ntmps22
  go_wp2
  go_ret
  exact ⟨rfl, Below.refl _ _⟩

def closeV (h b : Bool) (p q : Int) : Int := if (h && (b && !(decide (p < q) && (q != 4611686018427387904)))) = true then 0 else 13

set_option maxRecDepth 100000 in
set_option maxHeartbeats 4000000 in
theorem close_any (ob : ByteArray) (fa fb : Int) (ft : ByteArray) (fk : Bool) (nt : ByteArray) (nk : Bool) (h : Bool) (p q : Int) (b : Bool) (g : Nat) (w : World) (X : Blk w g 74 #[.string ob, .int .i64 fa, .int .i64 fb, .string ft, .bool fk, .string nt, .bool nk, .bool h, .bool false, .int .i64 p, .int .i64 q]) : Calls Try.prog 22 #[.pointer (some ⟨g, 0, none⟩), .bool b] w (XInt g #[.string ob, .int .i64 fa, .int .i64 fb, .string ft, .bool fk, .string nt, .bool nk, .bool h, .bool true, .int .i64 p, .int .i64 q] (closeV h b p q) w) := by
  have cX := X.cell
  have fX := X.frozen
  have lX := X.lt
  cases h
  · have hx := hide (show closeV false b p q = 13 by unfold closeV; rfl)
    go_enter Try.func22, Try.ntmps22
    go_upto_region 4 with fail
    obtain ⟨w1, hw1⟩ : ∃ w1 : World, w1 = w.setCell ⟨g, 8, none⟩ (.bool true) := ⟨_, rfl⟩
    rw [← hw1]
    have X1 : Blk w1 g 74 #[.string ob, .int .i64 fa, .int .i64 fb, .string ft, .bool fk, .string nt, .bool nk, .bool false, .bool true, .int .i64 p, .int .i64 q] := by rw [hw1]; exact set_over X
    have hBut : But g w w1 := by rw [hw1]; exact (But.refl _ _).set_ _
    clear hw1 cX fX
    have cX := X1.cell
    have fX := X1.frozen
    go_quiet (fail)
    go_wp2
    go_ret
    exact ⟨ret_int hx.out.symm, X1.drewN _, hBut.drewN _⟩
  · cases b
    · have hx := hide (show closeV true false p q = 13 by unfold closeV; rfl)
      go_enter Try.func22, Try.ntmps22
      go_upto_region 4 with fail
      obtain ⟨w1, hw1⟩ : ∃ w1 : World, w1 = w.setCell ⟨g, 8, none⟩ (.bool true) := ⟨_, rfl⟩
      rw [← hw1]
      have X1 : Blk w1 g 74 #[.string ob, .int .i64 fa, .int .i64 fb, .string ft, .bool fk, .string nt, .bool nk, .bool true, .bool true, .int .i64 p, .int .i64 q] := by rw [hw1]; exact set_over X
      have hBut : But g w w1 := by rw [hw1]; exact (But.refl _ _).set_ _
      clear hw1 cX fX
      have cX := X1.cell
      have fX := X1.frozen
      go_quiet (fail)
      go_wp2
      go_ret
      exact ⟨ret_int hx.out.symm, X1.drewN _, hBut.drewN _⟩
    · by_cases n1 : p < q
      · have d1 : decide (p < q) = true := by simpa using n1
        by_cases n2 : q = 4611686018427387904
        · have d2 : (q != 4611686018427387904) = false := by simpa using n2
          have hx := hide (show closeV true true p q = 0 by unfold closeV; rw [d1, d2]; rfl)
          clear n2
          go_enter Try.func22, Try.ntmps22
          go_upto_region 4 with fail
          obtain ⟨w1, hw1⟩ : ∃ w1 : World, w1 = w.setCell ⟨g, 8, none⟩ (.bool true) := ⟨_, rfl⟩
          rw [← hw1]
          have X1 : Blk w1 g 74 #[.string ob, .int .i64 fa, .int .i64 fb, .string ft, .bool fk, .string nt, .bool nk, .bool true, .bool true, .int .i64 p, .int .i64 q] := by rw [hw1]; exact set_over X
          have hBut : But g w w1 := by rw [hw1]; exact (But.refl _ _).set_ _
          clear hw1 cX fX
          have cX := X1.cell
          have fX := X1.frozen
          go_quiet (fail)
          go_wp2
          go_ret
          exact ⟨ret_int hx.out.symm, X1.drewN _, hBut.drewN _⟩
        · have d2 : (q != 4611686018427387904) = true := by simpa using n2
          have hx := hide (show closeV true true p q = 13 by unfold closeV; rw [d1, d2]; rfl)
          clear n2
          go_enter Try.func22, Try.ntmps22
          go_upto_region 4 with fail
          obtain ⟨w1, hw1⟩ : ∃ w1 : World, w1 = w.setCell ⟨g, 8, none⟩ (.bool true) := ⟨_, rfl⟩
          rw [← hw1]
          have X1 : Blk w1 g 74 #[.string ob, .int .i64 fa, .int .i64 fb, .string ft, .bool fk, .string nt, .bool nk, .bool true, .bool true, .int .i64 p, .int .i64 q] := by rw [hw1]; exact set_over X
          have hBut : But g w w1 := by rw [hw1]; exact (But.refl _ _).set_ _
          clear hw1 cX fX
          have cX := X1.cell
          have fX := X1.frozen
          go_quiet (fail)
          go_wp2
          go_ret
          exact ⟨ret_int hx.out.symm, X1.drewN _, hBut.drewN _⟩
      · have d1 : decide (p < q) = false := by simpa using n1
        have hx := hide (show closeV true true p q = 0 by unfold closeV; rw [d1]; rfl)
        go_enter Try.func22, Try.ntmps22
        go_upto_region 4 with fail
        obtain ⟨w1, hw1⟩ : ∃ w1 : World, w1 = w.setCell ⟨g, 8, none⟩ (.bool true) := ⟨_, rfl⟩
        rw [← hw1]
        have X1 : Blk w1 g 74 #[.string ob, .int .i64 fa, .int .i64 fb, .string ft, .bool fk, .string nt, .bool nk, .bool true, .bool true, .int .i64 p, .int .i64 q] := by rw [hw1]; exact set_over X
        have hBut : But g w w1 := by rw [hw1]; exact (But.refl _ _).set_ _
        clear hw1 cX fX
        have cX := X1.cell
        have fX := X1.frozen
        go_quiet (fail)
        go_wp2
        go_ret
        exact ⟨ret_int hx.out.symm, X1.drewN _, hBut.drewN _⟩

end Go.Proofs.Ytdbocpgkedgpcaa
