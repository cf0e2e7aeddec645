/-
  Runs laid; what puts one behind others.
-/
import Derived.Test.YtfcbmajogmojbaaDoorRngE
import Derived.Test.YtfcbmajogmojbaaDoorMapM
import Derived.Test.YtfcbmajogmojbaaDoorQuiet
import Derived.Defers
import Derived.Recover
namespace Go.Proofs.YtfcbmajogmojbaaDoor
open Go.RowKit
set_option linter.unusedVariables false
set_option linter.unusedSimpArgs false

def LRn : Lay Rn where
  t := 56
  e := 65
  n := 3
  bytes := 24
  enc x := [.int .i64 x.1.1, .int .i64 x.1.2, .int .u8 x.2]
  len _ := rfl
  one _ u hu := by simp at hu; rcases hu with rfl | rfl | rfl <;> rfl
  pos := by decide
  z := .agg #[.int .i64 0, .int .i64 0, .int .u8 0]
  ht := Tryd.underlying56
  info := by kernel_rfl
  zs := rfl
/-- The cells of a run that is read at a place. -/
theorem RdL.run_ {w : World} {B n c : Nat} {A : Option Addr} {l : List Rn} (h : RdL LRn w B (.slice A n c) l) (i : Nat) (hi : i < l.length) : ∃ b off, A = some ⟨b, off, none⟩ ∧ b < B ∧ w.cell? ⟨b, off + i * 3, none⟩ = some (.int .i64 l[i].1.1) ∧ w.cell? ⟨b, off + i * 3 + 1, none⟩ = some (.int .i64 l[i].1.2) ∧ w.cell? ⟨b, off + i * 3 + 2, none⟩ = some (.int .u8 l[i].2) := by
  obtain ⟨b, off, e, hlt, hc⟩ := h.at_ i hi
  exact ⟨b, off, e, hlt, hc 0 _ rfl, hc 1 _ rfl, hc 2 _ rfl⟩
theorem alike_idle (p : Addr) (w : World) : CallsD Tryd.prog 52 #[.pointer (some p)] .returning w fun e u' w' => e = .returned (.tuple #[]) ∧ u' = .returning ∧ w' = w := by
  refine callsD_of_wpS Tryd.func52 rfl fun c₀ cs hu => ?_
  apply wpS_seq
  apply wpS_region
  simp [wpOpsS, go_sem, recoverD, hu, Tryd.ntmps52, Exit.thenS]
  refine wpS_cond (t := false) (by simp [Act.eval, Array.replicate]) ?_
  simp only [Bool.false_eq_true, if_false]
  refine wpS_of_wp (wp_skip ?_)
  cases c₀
  simp_all [bodyPostS, results, Tryd.results52]

set_option maxRecDepth 100000 in
set_option maxHeartbeats 1000000 in
theorem alike_any (a b : Int) (w : World) : Calls Tryd.prog 32 #[.int .u8 a, .int .u8 b] w (BoolOk (a == b) w) := by
  have hmf : ∀ (fn : Fn) (first cap : Array Value) (w : World), (Instr.makeFunc fn first cap).run Tryd.prog w = .ok (.func fn first cap) w := fun _ _ _ _ => rfl
  unfold BoolOk
  go_enter_defers Tryd.func32, Tryd.ntmps32
  go_wp2
  refine leaves_cons (f := 52) (args := #[.pointer (some ⟨w.heap.size, 0, none⟩)]) (by simp) (by simp [go_sem]) ?_
  refine (alike_idle ⟨w.heap.size, 0, none⟩ _).mono ?_
  rintro e u' w'' ⟨rfl, rfl, rfl⟩
  have hB : Below w.heap.size w ((w.alloc (.cells #[.bool (a == b)] 4))) := (Below.refl _ _).alloc (Nat.le_refl _) _
  simp [Leaves, settle, results, Tryd.results32, go_sem]
  exact hB

def properB (f t : Int) : Bool := rightB f t && decide (f < t)

set_option maxRecDepth 100000 in
set_option maxHeartbeats 1000000 in
theorem proper_any (f t : Int) (w : World) : Calls Tryd.prog 29 #[.agg #[.int .i64 f, .int .i64 t]] w (BoolOk (properB f t) w) := by
  cases hr : rightB f t
  · have HX := hide (show properB f t = false by unfold properB; rw [hr]; rfl)
    go_enter Tryd.func29, Tryd.ntmps29
    go_upto_region 1 with fail
    obtain ⟨w1, hw1⟩ : ∃ w1 : World, w1 = (w).alloc (.cells #[.int .i64 f, .int .i64 t] 31) := ⟨_, rfl⟩
    rw [← hw1]
    have hB1 : Below w.heap.size w w1 := by rw [hw1]; exact ((Below.refl _ _).alloc (Nat.le_refl _) _)
    have X : Blk w1 (w.heap.size) 31 #[.int .i64 f, .int .i64 t] := by rw [hw1]; exact (Blk.new _ _ _)
    clear hw1
    have cX := X.cell
    go_wp2_with fail
    refine (sright_any f t w1).mono ?_
    rw [hr]
    rintro e w2 ⟨rfl, hb2⟩
    have hB2 := hB1.trans (hb2.mono hB1.size)
    replace X := X.below hb2 X.lt
    clear cX hb2 hr
    have cX := X.cell
    go_wp2_with fail
    go_ret
    exact ⟨ret_bool HX.out.symm, hB2⟩
  · by_cases h : f < t
    · have d : decide (f < t) = true := decide_eq_true h
      have HX := hide (show properB f t = true by unfold properB; rw [hr, d]; rfl)
      clear h
      go_enter Tryd.func29, Tryd.ntmps29
      go_upto_region 1 with fail
      obtain ⟨w1, hw1⟩ : ∃ w1 : World, w1 = (w).alloc (.cells #[.int .i64 f, .int .i64 t] 31) := ⟨_, rfl⟩
      rw [← hw1]
      have hB1 : Below w.heap.size w w1 := by rw [hw1]; exact ((Below.refl _ _).alloc (Nat.le_refl _) _)
      have X : Blk w1 (w.heap.size) 31 #[.int .i64 f, .int .i64 t] := by rw [hw1]; exact (Blk.new _ _ _)
      clear hw1
      have cX := X.cell
      go_wp2_with fail
      refine (sright_any f t w1).mono ?_
      rw [hr]
      rintro e w2 ⟨rfl, hb2⟩
      have hB2 := hB1.trans (hb2.mono hB1.size)
      replace X := X.below hb2 X.lt
      clear cX hb2 hr
      have cX := X.cell
      go_wp2_with fail
      go_ret
      exact ⟨ret_bool HX.out.symm, hB2⟩
    · have d : decide (f < t) = false := decide_eq_false h
      have HX := hide (show properB f t = false by unfold properB; rw [hr, d]; rfl)
      clear h
      go_enter Tryd.func29, Tryd.ntmps29
      go_upto_region 1 with fail
      obtain ⟨w1, hw1⟩ : ∃ w1 : World, w1 = (w).alloc (.cells #[.int .i64 f, .int .i64 t] 31) := ⟨_, rfl⟩
      rw [← hw1]
      have hB1 : Below w.heap.size w w1 := by rw [hw1]; exact ((Below.refl _ _).alloc (Nat.le_refl _) _)
      have X : Blk w1 (w.heap.size) 31 #[.int .i64 f, .int .i64 t] := by rw [hw1]; exact (Blk.new _ _ _)
      clear hw1
      have cX := X.cell
      go_wp2_with fail
      refine (sright_any f t w1).mono ?_
      rw [hr]
      rintro e w2 ⟨rfl, hb2⟩
      have hB2 := hB1.trans (hb2.mono hB1.size)
      replace X := X.below hb2 X.lt
      clear cX hb2 hr
      have cX := X.cell
      go_wp2_with fail
      go_ret
      exact ⟨ret_bool HX.out.symm, hB2⟩

/-- A run was put behind others that the call made: what is no part of their row lies as it lay. -/
def PushOk (B : Nat) (V : Value) (r : List Rn) (w : World) (e : Ending) (w' : World) : Prop :=
  ∃ v, e = .returned v ∧ OwnL LRn B w' v r ∧ Below B w w' ∧ w.grownBy w' V.ownBlock ∧ ∀ k, v.ownBlock = some k → V.ownBlock = some k ∨ w.heap.size ≤ k
theorem grown_of {w w1 w2 w3 : World} {row : Option Nat} (h1 : Below w.heap.size w w1) (h2 : w1.grownBy w2 row) : w.grownBy w2 row :=
  ⟨h2.os.trans h1.os, h2.tape.trans h1.tape, h2.output.trans h1.output, Nat.le_trans h1.size h2.size, fun k hk hne => (h2.block k (Nat.lt_of_lt_of_le hk h1.size) hne).trans (h1.block k hk)⟩
theorem grown_set {w w1 : World} {g i : Nat} (h1 : Below w.heap.size w w1) (u : Value) : w.grownBy (w1.setCell ⟨g, i, none⟩ u) (some g) :=
  grown_of (w3 := w) h1 ⟨rfl, rfl, rfl, by simp [World.setCell], fun k hk hne => Below.heap_setCell w1 ⟨g, i, none⟩ u k (fun e => hne (by rw [e]))⟩

set_option maxRecDepth 100000 in
set_option maxHeartbeats 6000000 in
theorem push_any (B : Nat) (V : Value) (l : List Rn) (f t v : Int) (w : World) (hO : OwnL LRn B w V l) (hBw : B ≤ w.heap.size) (hl : l.length ≤ 1000002) : Calls Tryd.prog 30 #[V, .agg #[.int .i64 f, .int .i64 t, .int .u8 v]] w (PushOk B V (pushR l ((f, t), v)) w) := by
  have hlen := hO.1
  go_enter Tryd.func30, Tryd.ntmps30
  go_upto_region 1 with fail
  obtain ⟨w1, hw1⟩ : ∃ w1 : World, w1 = w.alloc (.cells #[.int .i64 f, .int .i64 t, .int .u8 v] 65) := ⟨_, rfl⟩
  rw [← hw1]
  have hB1 : Below w.heap.size w w1 := by rw [hw1]; exact (Below.refl _ _).alloc (Nat.le_refl _) _
  have X : Blk w1 w.heap.size 65 #[.int .i64 f, .int .i64 t, .int .u8 v] := by rw [hw1]; exact Blk.new _ _ _
  have O1 := hO.alloc (.cells #[.int .i64 f, .int .i64 t, .int .u8 v] 65)
  rw [← hw1] at O1
  have hz1 := hB1.size
  clear hw1
  have cX := X.cell
  rcases List.eq_nil_or_concat l with rfl | ⟨m, y, rfl⟩
  · obtain ⟨A5, k5, hv5, h5a, h5b⟩ := hO.rd.form
    subst hv5
    have HL9 := hide (show ([] : List Rn).length + [((f, t), v)].length ≤ 1000000000 by rw [List.length_nil, List.length_singleton]; omega)
    have HP := hide (show pushR [] ((f, t), v) = [((f, t), v)] from rfl)
    go_upto_region 2 with fail
    go_quiet (fail)
    obtain ⟨w2, hw2⟩ : ∃ W : World, W = w1.drewN nq := ⟨_, rfl⟩
    first | rw [← hw2] | skip
    have hB2 : Below w.heap.size w w2 := by rw [hw2]; exact below_drewN hB1 _
    have O2 := O1.drewN nq
    replace X := X.drewN nq
    rw [← hw2] at O2 X
    clear cX hw2
    have cX := X.cell
    have hBB : Below B w w2 := hB2.mono hBw
    have hzz := hB2.size
    have R5 : RdL LRn (w2.alloc (.cells #[.int .i64 f, .int .i64 t, .int .u8 v] 65)) (w2.heap.size + 1) (.slice (some ⟨w2.heap.size, 0, none⟩) 1 1) [((f, t), v)] := by
      have := RdL.one_ (L := LRn) (x := ((f, t), v)) (Blk.new w2 65 #[.int .i64 f, .int .i64 t, .int .u8 v]) rfl
      simpa using this
    go_wp2_with (at_builtin; refine wpList_appL LRn w (by rfl) (.tmp 44) (.tmp 46) _ _ (by rfl) rfl rfl B _ _ (by rfl) (O2.alloc _) (hBB.alloc (by omega) _) (by simp; omega) _ [((f, t), v)] _ (by rfl) R5 (by decide) HL9.out ?_)
    intro v7 w7 O7 hB7 hg7 hv7
    have hG := grown_of (w3 := w) (hB2.alloc (by omega) _) hg7
    go_wp2_with fail
    go_ret
    exact ⟨v7, rfl, by first | (rw [HP.out]; exact O7) | (rw [List.concat_eq_append, HP.out, List.append_assoc]; exact O7), hB7, hG, fun k hk => by
      rcases hv7 with h | h
      · exact .inl (h ▸ hk)
      · rw [h] at hk; simp at hk; exact .inr (by omega)⟩
  · rw [List.concat_eq_append] at O1 hO hl ⊢
    obtain ⟨⟨yf, yt⟩, yv⟩ := y
    obtain ⟨g, c5, hv5, h5a, h5b, hBg, hgl, hcell, hfz⟩ := O1.some_ (by simp)
    have hgw : g < w.heap.size := by
      have := (hO.lt g (by rw [hv5]; rfl)).2; exact this
    have e1 := hcell m.length 1 (.int .i64 yt) (by simp) (by simp [LRn])
    have e2 := hcell m.length 2 (.int .u8 yv) (by simp) (by simp [LRn])
    have ef := hfz (m.length * 3 + 1)
    have HO := hide O1
    rw [hv5] at HO
    have HL9 := hide (show (m ++ [((yf, yt), yv)]).length + [((f, t), v)].length ≤ 1000000000 by rw [List.length_singleton]; omega)
    have hpush := push_at m ((yf, yt), yv) ((f, t), v)
    simp only at hpush
    subst hv5
    obtain ⟨n, hn⟩ : ∃ n, n = m.length := ⟨_, rfl⟩
    have hL : (m ++ [((yf, yt), yv)]).length = n + 1 := by simp [hn]
    rw [hL] at O1 h5a hl ⊢
    rw [← hn] at e1 e2 ef
    have e1 : w1.cell? ⟨g, n * 3 + 1, none⟩ = some (.int .i64 yt) := e1
    have e2 : w1.cell? ⟨g, n * 3 + 2, none⟩ = some (.int .u8 yv) := e2
    have hN := hide hn
    have HPU := hide hpush
    clear hcell hfz hL hn hpush hlen
    have hi1 : (0 : Int) ≤ (n : Int) := by omega
    have hi2 : (n : Int) < (((n + 1 : Nat)) : Int) := by omega
    have hi3 : (n : Int) < 1000003 := by omega
    by_cases ht : yt = f
    · have dt : (yt == f) = true := by simpa using ht
      have X1 : ∀ x : Bel w1.heap.size w1, x.w.cell? ⟨g, n * 3 + 1, none⟩ = some (.int .i64 yt) := fun x => x.cell e1 hgl
      have X2 : ∀ x : Bel w1.heap.size w1, x.w.cell? ⟨g, n * 3 + 2, none⟩ = some (.int .u8 yv) := fun x => x.cell e2 hgl
      have X3 : ∀ x : Bel w1.heap.size w1, x.w.cell? ⟨w.heap.size, 0, none⟩ = some (.int .i64 f) := fun x => x.cell (cX 0) X.lt
      have X4 : ∀ x : Bel w1.heap.size w1, x.w.cell? ⟨w.heap.size, 2, none⟩ = some (.int .u8 v) := fun x => x.cell (cX 2) X.lt
      by_cases hv : yv = v
      · have HAL := hide (show ∀ W, Calls Tryd.prog 32 #[.int .u8 yv, .int .u8 v] W fun e w' => e = .returned (.bool true) ∧ Below W.heap.size W w' from fun W => by have := alike_any yv v W; rwa [show (yv == v) = true by simpa using hv] at this)
        have HP := hide (show pushR (m ++ [((yf, yt), yv)]) ((f, t), v) = m ++ [((yf, t), yv)] by rw [HPU.out, if_pos ⟨ht, hv⟩])
        have HV := hide hv
        have HTE := hide ht
        clear hv ht HPU HL9
        go_upto_region 2 with fail
        refine wp_region_bel w1.heap.size (by kernel_rfl) (by kernel_rfl) ?_
        repeat (go_big_quiet_step ((go_at_call 32; exact bel_call (Nat.le_refl _) (HAL.out _))))
        refine wpQuiet_nil ?_
        rintro w9 ⟨⟨_, hb9⟩, rfl⟩
        have hB9 := hB1.trans (hb9.mono hB1.size)
        have X := X.below hb9 X.lt
        have e1' : w9.cell? ⟨g, n * 3 + 1, none⟩ = some (.int .i64 yt) := by rw [hb9.cell hgl]; exact e1
        have ef' : w9.frozen? ⟨g, n * 3 + 1, none⟩ = false := by rw [hb9.frozen hgl]; exact ef
        have HO9 := hide (HO.out.below hb9 (Nat.le_refl _))
        clear X1 X2 X3 X4 cX e1 e2 ef HAL hb9 HO O1
        have cX := X.cell
        go_wp2_with fail
        go_ret
        exact ⟨_, rfl, by
          have hs := HO9.out.set_ (i := m.length) (j := 1) (by simp) (by decide) (.int .i64 t) ((yf, t), yv) (by simp [LRn])
          rw [set_last, ← hN.out, List.length_append, List.length_singleton, ← hN.out] at hs
          rw [List.concat_eq_append, HP.out]
          exact hs, (hB9.mono hBw).setCell hBg _, grown_set hB9 _, fun k hk => .inl hk⟩
      · have HAL := hide (show ∀ W, Calls Tryd.prog 32 #[.int .u8 yv, .int .u8 v] W fun e w' => e = .returned (.bool false) ∧ Below W.heap.size W w' from fun W => by have := alike_any yv v W; rwa [show (yv == v) = false by simpa using hv] at this)
        have HP := hide (show pushR (m ++ [((yf, yt), yv)]) ((f, t), v) = m ++ [((yf, yt), yv)] ++ [((f, t), v)] by rw [HPU.out, if_neg (fun h => hv h.2)])
        have HTE := hide ht
        clear hv ht HPU
        go_upto_region 2 with fail
        refine wp_region_bel w1.heap.size (by kernel_rfl) (by kernel_rfl) ?_
        repeat (go_big_quiet_step ((go_at_call 32; exact bel_call (Nat.le_refl _) (HAL.out _))))
        refine wpQuiet_nil ?_
        rintro w9 ⟨⟨_, hb9⟩, rfl⟩
        have hB9 := hB1.trans (hb9.mono hB1.size)
        have X := X.below hb9 X.lt
        have O2 := O1.below hb9 (Nat.le_refl _)
        clear X1 X2 X3 X4 cX e1 e2 ef HAL hb9 HO O1
        have cX := X.cell
        have hBB : Below B w w9 := hB9.mono hBw
        have hzz := hB9.size
        have R5 : RdL LRn (w9.alloc (.cells #[.int .i64 f, .int .i64 t, .int .u8 v] 65)) (w9.heap.size + 1) (.slice (some ⟨w9.heap.size, 0, none⟩) 1 1) [((f, t), v)] := by
          have := RdL.one_ (L := LRn) (x := ((f, t), v)) (Blk.new w9 65 #[.int .i64 f, .int .i64 t, .int .u8 v]) rfl
          simpa using this
        go_wp2_with (at_builtin; refine wpList_appL LRn w (by rfl) (.tmp 44) (.tmp 46) _ _ (by rfl) rfl rfl B _ _ (by rfl) (O2.alloc _) (hBB.alloc (by omega) _) (by simp; omega) _ [((f, t), v)] _ (by rfl) R5 (by decide) HL9.out ?_)
        intro v7 w7 O7 hB7 hg7 hv7
        have hG := grown_of (w3 := w) (hB9.alloc (by omega) _) hg7
        go_wp2_with fail
        go_ret
        exact ⟨v7, rfl, by first | (rw [HP.out]; exact O7) | (rw [List.concat_eq_append, HP.out, List.append_assoc]; exact O7), hB7, hG, fun k hk => by
          rcases hv7 with h | h
          · exact .inl (h ▸ hk)
          · rw [h] at hk; simp at hk; exact .inr (by omega)⟩
    · have dt : (yt == f) = false := by simpa using ht
      have HP := hide (show pushR (m ++ [((yf, yt), yv)]) ((f, t), v) = m ++ [((yf, yt), yv)] ++ [((f, t), v)] by rw [HPU.out, if_neg (fun h => ht h.1)])
      clear HPU ht
      go_upto_region 2 with fail
      go_quiet (fail)
      obtain ⟨w2, hw2⟩ : ∃ W : World, W = w1.drewN nq := ⟨_, rfl⟩
      first | rw [← hw2] | skip
      have hB2 : Below w.heap.size w w2 := by rw [hw2]; exact below_drewN hB1 _
      have O2 := O1.drewN nq
      replace X := X.drewN nq
      rw [← hw2] at O2 X
      clear cX hw2 e1 e2 ef O1 HO
      have cX := X.cell
      have hBB : Below B w w2 := hB2.mono hBw
      have hzz := hB2.size
      have R5 : RdL LRn (w2.alloc (.cells #[.int .i64 f, .int .i64 t, .int .u8 v] 65)) (w2.heap.size + 1) (.slice (some ⟨w2.heap.size, 0, none⟩) 1 1) [((f, t), v)] := by
        have := RdL.one_ (L := LRn) (x := ((f, t), v)) (Blk.new w2 65 #[.int .i64 f, .int .i64 t, .int .u8 v]) rfl
        simpa using this
      go_wp2_with (at_builtin; refine wpList_appL LRn w (by rfl) (.tmp 44) (.tmp 46) _ _ (by rfl) rfl rfl B _ _ (by rfl) (O2.alloc _) (hBB.alloc (by omega) _) (by simp; omega) _ [((f, t), v)] _ (by rfl) R5 (by decide) HL9.out ?_)
      intro v7 w7 O7 hB7 hg7 hv7
      have hG := grown_of (w3 := w) (hB2.alloc (by omega) _) hg7
      go_wp2_with fail
      go_ret
      exact ⟨v7, rfl, by first | (rw [HP.out]; exact O7) | (rw [List.concat_eq_append, HP.out, List.append_assoc]; exact O7), hB7, hG, fun k hk => by
        rcases hv7 with h | h
        · exact .inl (h ▸ hk)
        · rw [h] at hk; simp at hk; exact .inr (by omega)⟩

end Go.Proofs.YtfcbmajogmojbaaDoor
