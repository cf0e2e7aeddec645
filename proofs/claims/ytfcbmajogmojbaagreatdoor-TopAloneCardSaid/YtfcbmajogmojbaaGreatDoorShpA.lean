/-
  An answer where the ranges count.
-/
import Derived.Test.YtfcbmajogmojbaaGreatDoorMulE
import Derived.Test.YtfcbmajogmojbaaGreatDoorGrSp
import Derived.Test.YtfcbmajogmojbaaGreatDoorSpcD
import Derived.Test.YtfcbmajogmojbaaGreatDoorGrFl
import Derived.Deep.DeepCutAuto
namespace Go.Proofs.YtfcbmajogmojbaaGreatDoor
open Go.RowKit Go.Proofs
set_option linter.unusedVariables false
set_option linter.unusedSimpArgs false

set_option maxRecDepth 100000 in
set_option maxHeartbeats 4000000 in
theorem putr_any (name val : ByteArray) (bx B : Nat) (v : Value) (l : List FieldL) (w : World) (hBb : B ≤ bx) (hX : Blk w bx LF.t #[v]) (ho : OwnL LF B w v l) (hl : l.length ≤ 1000) :
    Calls Tryz.prog 57 #[.string name, .string val, .pointer (some ⟨bx, 0, none⟩)] w (PutOk LF B bx (l ++ [(name.data.toList, val.data.toList)]) w) := by
  have hBw : B ≤ w.heap.size := Nat.le_trans hBb (Nat.le_of_lt hX.lt)
  have HNB := hide (ho.not_blk hX (by decide))
  have HX := hide hX
  have HO := hide ho
  have cX := hX.cell
  have fX := hX.frozen
  clear hX ho
  go_enter Tryz.func57, Tryz.ntmps57
  go_wp2_with (at_builtin; refine wpList_appL LF w (by rfl) (.tmp 5) (.tmp 9) _ _ (by rfl) rfl rfl B v l (by rfl) (HO.out.alloc _) ((Below.refl B w).alloc hBw _) (by simp; omega) _ [(name.data.toList, val.data.toList)] _ (by rfl) (RdL.one_ (Blk.new _ _ _) (by rw [LFenc, bytes_str, bytes_str])) (by decide) (by show _ + 1 ≤ 1000000000; omega) ?_)
  intro v7 w7 O7 hap hgr _
  obtain ⟨A7, c7, hv7, _, _⟩ := O7.rd.form
  subst hv7
  have X7 := Blk.grown (HX.out.alloc _) hgr HNB.out
  clear cX fX
  have cX7 := X7.cell
  have fX7 := X7.frozen
  go_wp2
  go_end0
  exact ⟨rfl, _, by simpa using X7.set_ 0 _, OwnL.far O7 (O7.not_blk X7 (by decide)) _, below_set hap hBb _, (((KeptL.refl LF.e bx w).alloc _).grown hgr (fun k hk => (HO.out.alloc _).kind k hk)).set_ _⟩


/-- An own row of another kind is kept. -/
theorem OwnL.farL {α : Type} {L : Lay α} {B bx : Nat} {e t : TypeId} {cs : Array Value} {w w' : World} {v : Value} {l : List α} (h : OwnL L B w v l) (hk : KeptL e bx w w') (he : L.e ≠ e) (hX : Blk w bx t cs) (ht : t ≠ L.e) : OwnL L B w' v l := by
  refine ⟨h.1, h.2.imp id ?_⟩
  rintro ⟨g, cap, cur, h1, h2, h3, h4⟩
  refine ⟨g, cap, cur, h1, h2, hk.far g _ _ (fun e' => ?_) he h3, h4⟩
  subst e'
  unfold Blk at hX
  rw [hX] at h3
  injection h3 with h3
  injection h3 with _ h3
  exact ht h3
/-- An answer: its status, its size and its parts. -/
def AnsOk (w0 w : World) (C : Prop) (Q : Int → Int → List P3 → Prop) (e : Ending) (w' : World) : Prop := ∃ (sta siz : Int) (fA : Option Addr) (fn fc : Nat) (pA : Option Addr) (pc : Nat) (ps : List P3), e = .returned (.agg #[.int .i64 sta, .slice fA fn fc, .slice pA ps.length pc, .int .i64 siz]) ∧ Q sta siz ps ∧ OwnL LP w.heap.size w' (.slice pA ps.length pc) ps ∧ (C → ∀ p ∈ ps, PartIn p) ∧ ps.length ≤ 1000 ∧ Below w0.heap.size w w'
/-- What ranges come to. -/
def RanQ (hv : Int) (sl : List Sp) (sta siz : Int) (ps : List P3) : Prop := (resL hv sl = [] ∧ sta = 416 ∧ ps = []) ∨ (resL hv sl ≠ [] ∧ sta = 206 ∧ Folded (resL hv sl) (spansP ps))
theorem below_dr {B : Nat} {a w : World} (h : Below B a w) : Below B a w.drew := h.drew
theorem below_dr2 {w w' : World} (h : Below w.drew.heap.size w.drew w') : Below w.heap.size w w' := ⟨h.os, h.tape, h.output, h.size, h.block⟩
theorem span_cells {B b o k : Nat} {w : World} {r : List Sp} {a c : Int} {h : 0 < r.length} (hS : OwnL LSp B w (.slice (some ⟨b, o, none⟩) 1 k) r) (hx : r[0] = (a, c)) : w.cell? ⟨b, o, none⟩ = some (.int .i64 a) ∧ w.cell? ⟨b, o + 1, none⟩ = some (.int .i64 c) := by
  obtain ⟨b6, o6, hA6, -, p6, q6⟩ := hS.rd.span 0 h
  simp only [Option.some.injEq, Addr.mk.injEq, and_true] at hA6
  obtain ⟨rfl, rfl⟩ := hA6
  rw [hx] at p6 q6
  simp only at p6 q6
  rw [Nat.zero_mul, Nat.add_zero] at p6 q6
  exact ⟨p6, q6⟩
theorem OwnL.one_ {α : Type} {L : Lay α} {B g : Nat} {w : World} {x : α} {cs : Array Value} (h : Blk w g L.e cs) (hcs : cs.toList = L.enc x) (hB : B ≤ g) : OwnL L B w (.slice (some ⟨g, 0, none⟩) 1 1) [x] := by
  have hl : cs.toList.length = L.n := by rw [hcs, L.len]
  have hs : cs.size = 1 * L.n := by rw [Nat.one_mul]; simpa using hl
  have hf : [x].flatMap L.enc = cs.toList := by rw [hcs]; simp
  have hn : ([x].flatMap L.enc).length = [x].length * L.n := flat_len L [x]
  exact ⟨hn, .inr ⟨g, 1, cs, rfl, hB, h, Nat.le_refl _, by decide, hs, (by rw [hf, List.length_singleton, ← hs]; exact List.take_of_length_le (by simp))⟩⟩
theorem spansP_one (a b : Int) : spansP [(⟨#[]⟩, a, b)] = [(a, b)] := rfl

set_option maxRecDepth 100000 in
set_option maxHeartbeats 16000000 in
theorem ranged_any (hd : Bool) (ob : ByteArray) (sA : Option Addr) (sc : Nat) (sl : List Sp) (m n : Value) (am an : Bool) (si un : Int) (rt : ByteArray) (rk : Bool) (mt : ByteArray) (mk : Bool) (md ln hv fr wh er : Int) (kv : Value) (tn : ByteArray) (kp : Bool) (fA : Option Addr) (fc : Nat) (fl : List FieldL) (u : Nat) (hu : u < 16) (w0 w : World) (hw0 : Below w0.heap.size w0 w) (hr : RdL LSp w0 w0.heap.size (.slice sA sl.length sc) sl) (hsl : sl.length ≤ 12) (ho : OwnL LF w0.heap.size w (.slice fA fl.length fc) fl) (hfl : fl.length ≤ 100) (hT : Tab w0) (hX : TabX w0) (h1 : -1 ≤ ln) (h2 : ln ≤ 1099511627776) (h3 : 0 ≤ hv) (h4 : hv ≤ 1099511627776) (h5 : ln = -1 ∨ hv = ln) :
    Calls Tryz.prog 29 #[.agg #[.bool hd, .string ob, .slice sA sl.length sc, m, n, .bool am, .bool an, .int .i64 si, .int .i64 un, .string rt, .bool rk], .agg #[.string mt, .bool mk, .int .i64 md, .int .i64 ln, .int .i64 hv, .int .i64 fr, .int .i64 wh, .int .i64 er, kv, .string tn, .bool kp], .slice fA fl.length fc, .int .i64 (u : Int)] w (AnsOk w0 w True (RanQ hv sl) ) := by
  have HR := hide hr
  have HO9 := hide ho
  have HT := hide hT
  have HX := hide hX
  clear hr ho hT hX
  have hz0 := hw0.size
  go_enter Tryz.func29, Tryz.ntmps29
  go_upto_region 2 with fail
  obtain ⟨w1, hw1⟩ : ∃ w1 : World, w1 = ((((w).alloc (.cells #[.bool hd, .string ob, .slice sA sl.length sc, m, n, .bool am, .bool an, .int .i64 si, .int .i64 un, .string rt, .bool rk] 29)).alloc (.cells #[.string mt, .bool mk, .int .i64 md, .int .i64 ln, .int .i64 hv, .int .i64 fr, .int .i64 wh, .int .i64 er, kv, .string tn, .bool kp] 32)).alloc (.cells #[.slice fA fl.length fc] 36)).alloc (.cells #[.int .i64 0, .slice none 0 0, .slice none 0 0, .int .i64 0] 39) := ⟨_, rfl⟩
  rw [← hw1]
  have hB1 : Below w.heap.size w w1 := by rw [hw1]; exact (((((Below.refl _ _).alloc (Nat.le_refl _) _).alloc (by simp; try omega) _).alloc (by simp; try omega) _).alloc (by simp; try omega) _)
  have Qb : Blk w1 (w.heap.size) 29 #[.bool hd, .string ob, .slice sA sl.length sc, m, n, .bool am, .bool an, .int .i64 si, .int .i64 un, .string rt, .bool rk] := by rw [hw1]; exact ((((Blk.new _ _ _).alloc _).alloc _).alloc _)
  have Mb : Blk w1 (w.heap.size + 1) 32 #[.string mt, .bool mk, .int .i64 md, .int .i64 ln, .int .i64 hv, .int .i64 fr, .int .i64 wh, .int .i64 er, kv, .string tn, .bool kp] := by rw [hw1]; exact (((Blk.new' (by simp)).alloc _).alloc _)
  have Fb : Blk w1 (w.heap.size + 1 + 1) 36 #[.slice fA fl.length fc] := by rw [hw1]; exact ((Blk.new' (by simp)).alloc _)
  have Rb : Blk w1 (w.heap.size + 1 + 1 + 1) 39 #[.int .i64 0, .slice none 0 0, .slice none 0 0, .int .i64 0] := by rw [hw1]; exact (Blk.new' (by simp))
  clear hw1
  have cQb := Qb.cell
  have cMb := Mb.cell
  have cFb := Fb.cell
  have cRb := Rb.cell
  have hw0B : Below w0.heap.size w0 w1 := hw0.trans (hB1.mono hz0)
  have hB9 : Below w0.heap.size w w1 := hB1.mono hz0
  have HO := hide (HO9.out.below hB1 (Nat.le_refl _))
  have hbx : w0.heap.size ≤ w.heap.size + 1 + 1 := by omega
  clear HO9 hB1
  have HRok := hide (res_ok (l := sl) h3 (by omega))
  have HRin := hide (res_in (l := sl) h3)
  have hRl := res_len hv sl
  go_wp2_with fail
  refine (resolve_any _ sl hv w1 ((HR.out.below hw0B).mono hw0B.size) (by omega) h3 (by omega)).mono ?_
  rintro e w2 ⟨v2, rfl, O2, hb2⟩
  clear cQb cMb cFb cRb
  clear Qb HR
  have cMb := Mb.cell
  have cFb := Fb.cell
  have cRb := Rb.cell
  clear cMb cFb cRb
  replace Mb := Mb.below hb2 Mb.lt
  replace Fb := Fb.below hb2 Fb.lt
  replace Rb := Rb.below hb2 Rb.lt
  replace HO := hide (HO.out.below hb2 (Nat.le_refl _))
  have hB2 := hB9.trans (hb2.mono (Nat.le_trans (Nat.le_trans hw0.size (Nat.le_refl _)) (hB9.size)))
  clear hb2 hB9
  have cMb := Mb.cell
  have cFb := Fb.cell
  have cRb := Rb.cell
  obtain ⟨R, hR⟩ : ∃ R, R = resL hv sl := ⟨_, rfl⟩
  rw [← hR] at O2 HRok HRin hRl ⊢
  have HRE := hide hR
  have HO2 := hide O2.rd
  obtain ⟨A2, k2, hv2, -, -⟩ := O2.rd.form
  subst hv2
  clear hR O2
  go_wp2_with fail
  refine (fold_any _ R w2 HO2.out (by omega) HRok.out).mono ?_
  rintro e w3 ⟨v3, r, rfl, hfd, O3, hb3⟩
  have HFd := hide hfd
  have HS := hide O3
  obtain ⟨A3, k3, hv3, -, -⟩ := O3.rd.form
  subst hv3
  have hrl := hfd.1
  clear hfd O3 HO2
  clear cMb cFb cRb
  replace Mb := Mb.below hb3 Mb.lt
  replace Fb := Fb.below hb3 Fb.lt
  replace Rb := Rb.below hb3 Rb.lt
  replace HO := hide (HO.out.below hb3 (Nat.le_refl _))
  have hB3 := hB2.trans (hb3.mono (Nat.le_trans (Nat.le_trans hw0.size (Nat.le_refl _)) (hB2.size)))
  clear hb3 hB2
  have cMb := Mb.cell
  have cFb := Fb.cell
  have cRb := Rb.cell
  by_cases hR0 : R.length = 0
  · have dR : decide (0 < R.length) = false := decide_eq_false (by omega)
    have hRn : R = [] := List.eq_nil_of_length_eq_zero hR0
    by_cases hln : ln = -1
    · have g1 : (ln == -1) = true := by rw [beq_iff_eq]; exact hln
      go_wp2_with fail
      refine (num_any hv _ (by omega) (by omega) (HT.out.below (hw0.trans hB3))).mono ?_
      rintro e w4 ⟨rfl, hb4⟩
      have hln4 := numT_len (n := hv) (by omega) (by omega)
      clear cMb cFb cRb
      replace Mb := Mb.below hb4 Mb.lt
      replace Fb := Fb.below hb4 Fb.lt
      replace Rb := Rb.below hb4 Rb.lt
      replace HO := hide (HO.out.below hb4 (Nat.le_refl _))
      have hB4 := hB3.trans (hb4.mono (Nat.le_trans (Nat.le_trans hw0.size (Nat.le_refl _)) (hB3.size)))
      clear hb4 hB3
      have cMb := Mb.cell
      have cFb := Fb.cell
      have cRb := Rb.cell
      go_wp2_with fail
      refine (putr_any _ _ (w.heap.size + 1 + 1) w0.heap.size _ fl _ hbx Fb HO.out (by omega)).mono ?_
      rintro e w5 ⟨rfl, u5, Fb5, O5, hb5, hk5⟩
      clear cMb cFb cRb
      replace Mb := hk5.far _ _ _ (by omega) (by decide) Mb
      replace Rb := hk5.far _ _ _ (by omega) (by decide) Rb
      have hB5 := hB4.trans hb5
      clear Fb HO hb5 hk5 hB4
      have Fb := Fb5
      obtain ⟨f5, hf5, HO⟩ : ∃ f5 : List FieldL, f5.length ≤ fl.length + 1 ∧ Hid (OwnL LF w0.heap.size w5 u5 f5) := ⟨_, by rw [List.length_append, List.length_singleton]; exact Nat.le_refl _, O5⟩
      clear Fb5 O5
      obtain ⟨A5, k5, hv5, -, -⟩ := HO.out.rd.form
      subst hv5
      have cMb := Mb.cell
      have cFb := Fb.cell
      have cRb := Rb.cell
      have fRb := Rb.frozen
      have lRb := Rb.lt
      go_wp2_with fail
      obtain ⟨w90, hw90⟩ : ∃ W : World, W = ((((w5).setCell ⟨w.heap.size + 1 + 1 + 1, 0, none⟩ (.int .i64 416)).setCell ⟨w.heap.size + 1 + 1 + 1, 1, none⟩ (.slice A5 f5.length k5)).setCell ⟨w.heap.size + 1 + 1 + 1, 2, none⟩ (.slice none 0 0)).setCell ⟨w.heap.size + 1 + 1 + 1, 3, none⟩ (.int .i64 0) := ⟨_, rfl⟩
      rw [← hw90]
      have R9 : Blk w90 (w.heap.size + 1 + 1 + 1) 39 #[.int .i64 416, .slice A5 f5.length k5, .slice none 0 0, .int .i64 0] := by rw [hw90]; exact ((((Rb).set_ 0 _).set_ 1 _).set_ 2 _).set_ 3 _
      have hB90 : Below w0.heap.size w w90 := by rw [hw90]; exact below_set (below_set (below_set (below_set (hB5) (by omega) _) (by omega) _) (by omega) _) (by omega) _
      skip
      clear hw90
      have cR9 := R9.cell
      refine bodyPost_ret (v := .agg #[.int .i64 416, .slice A5 f5.length k5, .slice none 0 0, .int .i64 0]) (by simp [results, Tryz.results29, go_sem, cR9]) rfl ?_
      exact ⟨416, 0, A5, f5.length, k5, none, 0, [], rfl, .inl ⟨by rw [← HRE.out]; exact hRn, rfl, rfl⟩, OwnL.nil _ _ _, (fun _ p hp => by cases hp), by show 0 ≤ 1000; omega, hB90⟩
    · have g1 : (ln == -1) = false := by rw [beq_eq_false_iff_ne]; exact hln
      go_wp2_with fail
      refine (num_any ln _ (by omega) (by omega) (HT.out.below (hw0.trans hB3))).mono ?_
      rintro e w4 ⟨rfl, hb4⟩
      have hln4 := numT_len (n := ln) (by omega) (by omega)
      clear cMb cFb cRb
      replace Mb := Mb.below hb4 Mb.lt
      replace Fb := Fb.below hb4 Fb.lt
      replace Rb := Rb.below hb4 Rb.lt
      replace HO := hide (HO.out.below hb4 (Nat.le_refl _))
      have hB4 := hB3.trans (hb4.mono (Nat.le_trans (Nat.le_trans hw0.size (Nat.le_refl _)) (hB3.size)))
      clear hb4 hB3
      have cMb := Mb.cell
      have cFb := Fb.cell
      have cRb := Rb.cell
      go_wp2_with fail
      refine (putr_any _ _ (w.heap.size + 1 + 1) w0.heap.size _ fl _ hbx Fb HO.out (by omega)).mono ?_
      rintro e w5 ⟨rfl, u5, Fb5, O5, hb5, hk5⟩
      clear cMb cFb cRb
      replace Mb := hk5.far _ _ _ (by omega) (by decide) Mb
      replace Rb := hk5.far _ _ _ (by omega) (by decide) Rb
      have hB5 := hB4.trans hb5
      clear Fb HO hb5 hk5 hB4
      have Fb := Fb5
      obtain ⟨f5, hf5, HO⟩ : ∃ f5 : List FieldL, f5.length ≤ fl.length + 1 ∧ Hid (OwnL LF w0.heap.size w5 u5 f5) := ⟨_, by rw [List.length_append, List.length_singleton]; exact Nat.le_refl _, O5⟩
      clear Fb5 O5
      obtain ⟨A5, k5, hv5, -, -⟩ := HO.out.rd.form
      subst hv5
      have cMb := Mb.cell
      have cFb := Fb.cell
      have cRb := Rb.cell
      have fRb := Rb.frozen
      have lRb := Rb.lt
      go_wp2_with fail
      obtain ⟨w90, hw90⟩ : ∃ W : World, W = ((((w5).setCell ⟨w.heap.size + 1 + 1 + 1, 0, none⟩ (.int .i64 416)).setCell ⟨w.heap.size + 1 + 1 + 1, 1, none⟩ (.slice A5 f5.length k5)).setCell ⟨w.heap.size + 1 + 1 + 1, 2, none⟩ (.slice none 0 0)).setCell ⟨w.heap.size + 1 + 1 + 1, 3, none⟩ (.int .i64 0) := ⟨_, rfl⟩
      rw [← hw90]
      have R9 : Blk w90 (w.heap.size + 1 + 1 + 1) 39 #[.int .i64 416, .slice A5 f5.length k5, .slice none 0 0, .int .i64 0] := by rw [hw90]; exact ((((Rb).set_ 0 _).set_ 1 _).set_ 2 _).set_ 3 _
      have hB90 : Below w0.heap.size w w90 := by rw [hw90]; exact below_set (below_set (below_set (below_set (hB5) (by omega) _) (by omega) _) (by omega) _) (by omega) _
      skip
      clear hw90
      have cR9 := R9.cell
      refine bodyPost_ret (v := .agg #[.int .i64 416, .slice A5 f5.length k5, .slice none 0 0, .int .i64 0]) (by simp [results, Tryz.results29, go_sem, cR9]) rfl ?_
      exact ⟨416, 0, A5, f5.length, k5, none, 0, [], rfl, .inl ⟨by rw [← HRE.out]; exact hRn, rfl, rfl⟩, OwnL.nil _ _ _, (fun _ p hp => by cases hp), by show 0 ≤ 1000; omega, hB90⟩
  · have dR : decide (0 < R.length) = true := decide_eq_true (by omega)
    go_upto_region 11 with fail
    obtain ⟨w4, hw4⟩ : ∃ W : World, W = w3.alloc (.cells #[.int .i64 206, .slice none 0 0, .slice none 0 0, .int .i64 0] 39) := ⟨_, rfl⟩
    rw [← hw4]
    have Ab : Blk w4 w3.heap.size 39 #[.int .i64 206, .slice none 0 0, .slice none 0 0, .int .i64 0] := by rw [hw4]; exact Blk.new _ _ _
    have hl3 := Rb.lt
    replace Mb := Mb.alloc (.cells #[.int .i64 206, .slice none 0 0, .slice none 0 0, .int .i64 0] 39)
    replace Fb := Fb.alloc (.cells #[.int .i64 206, .slice none 0 0, .slice none 0 0, .int .i64 0] 39)
    replace Rb := Rb.alloc (.cells #[.int .i64 206, .slice none 0 0, .slice none 0 0, .int .i64 0] 39)
    replace HO := hide (HO.out.alloc (.cells #[.int .i64 206, .slice none 0 0, .slice none 0 0, .int .i64 0] 39))
    replace HS := hide (HS.out.alloc (.cells #[.int .i64 206, .slice none 0 0, .slice none 0 0, .int .i64 0] 39))
    rw [← hw4] at Mb Fb Rb HO HS
    have hB4 : Below w0.heap.size w w4 := by rw [hw4]; exact hB3.alloc (Nat.le_trans hz0 hB3.size) _
    obtain ⟨ab, hab⟩ : ∃ n, n = w3.heap.size := ⟨_, rfl⟩
    rw [← hab] at Ab hl3 ⊢
    clear cMb cFb cRb
    clear hw4 hab hB3
    have cMb := Mb.cell
    have cFb := Fb.cell
    have cRb := Rb.cell
    have cAb := Ab.cell
    have hz4 : w0.heap.size ≤ w4.heap.size := Nat.le_trans hz0 hB4.size
    by_cases hr1 : r.length = 1
    · obtain ⟨b3, o3, hA3, hbl3, p3, q3⟩ := HS.out.rd.span 0 (by omega)
      subst hA3
      obtain ⟨xf, xt, hx⟩ : ∃ f t : Int, r[0] = (f, t) := ⟨_, _, rfl⟩
      rw [hx] at p3 q3
      simp only at p3 q3
      rw [Nat.zero_mul, Nat.add_zero] at p3 q3
      have hrx : r = [(xf, xt)] := by
        obtain ⟨y, hy⟩ := List.length_eq_one_iff.1 hr1
        subst hy
        simpa using hx
      have hok := HFd.out.2.1 (xf, xt) (by rw [hrx]; simp)
      have hin := folded_in HFd.out (hv := hv) (fun x hx => (HRin.out x hx).2.2) (xf, xt) (by rw [hrx]; simp)
      obtain ⟨hi1, hi2, hi9⟩ : 0 ≤ xf ∧ xf < xt ∧ xt ≤ 4611686018427387904 := hok
      have hi3 : xt ≤ 1099511627776 := by have : xt ≤ hv := hin; omega
      have hi4 : ln = -1 ∨ xt ≤ ln := by have : xt ≤ hv := hin; omega
      have HRX := hide hrx
      have HX0 := hide hx
      clear hx hrx hin hi9
      rw [hr1] at HS ⊢
      skip
      go_upto_region 12 with fail
      go_cut [] (fun wx => ∃ (f6 : List FieldL) (A6 : Option Addr) (k6 : Nat), f6.length ≤ fl.length + 1 ∧ Blk wx (w.heap.size + 1 + 1) LF.t #[.slice A6 f6.length k6] ∧ Hid (OwnL LF w0.heap.size wx (.slice A6 f6.length k6) f6) ∧ Blk wx (w.heap.size + 1 + 1 + 1) 39 #[.int .i64 0, .slice none 0 0, .slice none 0 0, .int .i64 0] ∧ Blk wx ab 39 #[.int .i64 206, .slice none 0 0, .slice none 0 0, .int .i64 0] ∧ OwnL LSp w2.heap.size wx (.slice (some ⟨b3, o3, none⟩) 1 k3) r ∧ Below w0.heap.size w wx ∧ w4.heap.size ≤ wx.heap.size)
      case first =>
        go_region_with (first | (go_at_call 59; refine (content_any xf xt ln _ (HT.out.below (hw0.trans (below_dr hB4))) hi1 hi2 hi3 h1 h2 hi4).mono ?_; rintro e w5 ⟨t, rfl, ht1, ht2, hb5⟩; have hb5 := below_dr2 hb5; have M5 := Mb.below hb5 Mb.lt; have F5 := Fb.below hb5 Fb.lt; have R5 := Rb.below hb5 Rb.lt; have A5 := Ab.below hb5 Ab.lt; have O5 := HO.out.below hb5 (Nat.le_refl _); have S5 := HS.out.below hb5 (Nat.le_refl _); have B5 := hB4.trans (hb5.mono hz4); have l5 := hb5.size) | (go_at_call 57; refine (putr_any _ _ (w.heap.size + 1 + 1) w0.heap.size _ fl _ hbx F5 O5 (by omega)).mono ?_; rintro e w6 ⟨rfl, u6, F6, O6, hb6, hk6⟩; have M6 := hk6.far _ _ _ (by omega) (by decide) M5; have R6 := hk6.far _ _ _ (by omega) (by decide) R5; have A6 := hk6.far _ _ _ (by omega) (by decide) A5; have S6 := OwnL.farL S5 hk6 (by decide) F5 (by decide); have B6 := B5.trans hb6; have l6 := Nat.le_trans l5 hk6.size))
        all_goals
          obtain ⟨f6, hf6, HO6⟩ : ∃ f6 : List FieldL, f6.length ≤ fl.length + 1 ∧ Hid (OwnL LF w0.heap.size w6 u6 f6) := ⟨_, by rw [List.length_append, List.length_singleton]; exact Nat.le_refl _, O6⟩
          obtain ⟨A6', k6, hv6, -, -⟩ := HO6.out.rd.form
          subst hv6
          go_wp2_with fail
          go_meet
          exact ⟨f6, A6', k6, hf6, F6, HO6, R6, A6, S6, B6, l6⟩
      case rest =>
        obtain ⟨f6, A6, k6, hf6, Fb, HO, Rb, Ab, S6, hB6, hlw6⟩ := hcut
        clear cMb cFb cRb cAb HS p3 q3
        obtain ⟨w6, hw6⟩ : ∃ W : World, W = wc := ⟨_, rfl⟩
        rw [← hw6] at Fb HO Rb Ab S6 hB6 hlw6 ⊢
        clear hw6
        have pq6 := span_cells S6 HX0.out
        obtain ⟨p6, q6⟩ := pq6
        clear S6
        have cAb := Ab.cell
        have fAb := Ab.frozen
        have lAb := Ab.lt
        go_upto_region 17 with fail
        obtain ⟨w7, hw7⟩ : ∃ W : World, W = (w6.setCell ⟨ab, 2, none⟩ (.slice (some ⟨w6.heap.size, 0, none⟩) 1 1)).alloc (.cells #[.string ⟨#[]⟩, .int .i64 xf, .int .i64 xt] 75) := ⟨_, rfl⟩
        rw [← hw7]
        obtain ⟨pb, hpb⟩ : ∃ n, n = w6.heap.size := ⟨_, rfl⟩
        rw [← hpb] at hw7 lAb ⊢
        have Ab7 : Blk w7 ab 39 #[.int .i64 206, .slice none 0 0, .slice (some ⟨pb, 0, none⟩) 1 1, .int .i64 0] := by rw [hw7]; exact (Ab.set_ 2 _).alloc _
        have Pb : Blk w7 pb 75 #[.string ⟨#[]⟩, .int .i64 xf, .int .i64 xt] := by rw [hw7]; exact Blk.new' (by rw [hpb]; simp [World.setCell])
        have Rb7 := (Rb.far (p := ⟨ab, 2, none⟩) (by show _ ≠ ab; omega) (.slice (some ⟨pb, 0, none⟩) 1 1)).alloc (.cells #[.string ⟨#[]⟩, .int .i64 xf, .int .i64 xt] 75)
        have Fb7 := (Fb.far (p := ⟨ab, 2, none⟩) (by show _ ≠ ab; omega) (.slice (some ⟨pb, 0, none⟩) 1 1)).alloc (.cells #[.string ⟨#[]⟩, .int .i64 xf, .int .i64 xt] 75)
        rw [← hw7] at Rb7 Fb7
        have hB7 : Below w0.heap.size w w7 := by rw [hw7]; exact (below_set hB6 (by omega) _).alloc (by show _ ≤ (World.setCell _ _ _).heap.size; simp [World.setCell]; have := hB6.size; omega) _
        have hpl : w.heap.size + 1 + 1 + 1 < pb := by omega
        have hpa : ab < pb := lAb
        have OP := hide (OwnL.one_ (L := LP) (x := (⟨#[]⟩, xf, xt)) (B := ab + 1) Pb rfl (by omega))
        have HPI := hide (show ∀ p ∈ [((⟨#[]⟩, xf, xt) : P3)], PartIn p from fun p hp => by
          obtain rfl : p = (⟨#[]⟩, xf, xt) := by simpa using hp
          exact ⟨by show (⟨#[]⟩ : ByteArray).size ≤ 1000; decide, hi1, by show xf ≤ xt; omega, hi3⟩)
        have HFF := hide (show Folded R (spansP [((⟨#[]⟩, xf, xt) : P3)]) by rw [spansP_one, ← HRX.out]; exact HFd.out)
        obtain ⟨ps, hps⟩ : ∃ ps : List P3, ps = [(⟨#[]⟩, xf, xt)] := ⟨_, rfl⟩
        rw [← hps] at OP HPI HFF
        have HPL := hide (show ps.length = 1 by rw [hps]; rfl)
        have HLL := hide (show ps.length ≤ 1000 by rw [hps]; show 1 ≤ 1000; omega)
        clear hw7 hpb cAb fAb lAb Ab Pb Rb Fb hB6 hps p6 q6 HRX HX0 HFd
        skip
        have cAb := Ab7.cell
        have fAb := Ab7.frozen
        have cFb := Fb7.cell
        have lAb := Ab7.lt
        have OPS : ∀ W : World, OwnL LP (ab + 1) W (.slice (some ⟨pb, 0, none⟩) 1 1) ps → OwnL LP w.heap.size W (.slice (some ⟨pb, 0, none⟩) ps.length 1) ps := fun W h => by rw [HPL.out]; exact h.mono (by omega)
        have hpoR : (Value.slice (some ⟨pb, 0, none⟩) 1 1).ownBlock ≠ some (w.heap.size + 1 + 1 + 1) := fun e => by have := (OP.out.lt _ e).1; omega
        have hpoA : (Value.slice (some ⟨pb, 0, none⟩) 1 1).ownBlock ≠ some ab := fun e => by have := (OP.out.lt _ e).1; omega
        go_upto_region 18 with fail
        obtain ⟨w10, hw10⟩ : ∃ W : World, W = w7.setCell ⟨ab, 1, none⟩ (.slice A6 f6.length k6) := ⟨_, rfl⟩
        rw [← hw10]
        have Ab8 : Blk w10 ab 39 #[.int .i64 206, .slice A6 f6.length k6, .slice (some ⟨pb, 0, none⟩) 1 1, .int .i64 0] := by rw [hw10]; exact Ab7.set_ 1 _
        have Rb8 := Rb7.far (p := ⟨ab, 1, none⟩) (by show _ ≠ ab; omega) (.slice A6 f6.length k6)
        have OP8 := hide (OP.out.far (p := ⟨ab, 1, none⟩) hpoA (.slice A6 f6.length k6))
        rw [← hw10] at Rb8 OP8
        have hB10 : Below w0.heap.size w w10 := by rw [hw10]; exact below_set hB7 (by omega) _
        clear hw10 cAb fAb cFb lAb Ab7 Rb7 Fb7 OP hB7 HO
        have cAb := Ab8.cell
        go_wp2_with fail
        refine (size_any _ ps w10 OP8.out.rd HLL.out HPI.out).mono ?_
        rintro e w11 ⟨nsz, rfl, hb11⟩
        replace Ab8 := Ab8.below hb11 Ab8.lt
        replace Rb8 := Rb8.below hb11 Rb8.lt
        replace OP8 := hide (OP8.out.below hb11 (Nat.le_refl _))
        have hB11 := hB10.trans (hb11.mono (Nat.le_trans hz0 hB10.size))
        clear cAb hb11 hB10
        have cAb := Ab8.cell
        have fAb := Ab8.frozen
        have lAb := Ab8.lt
        go_upto_region 19 with fail
        obtain ⟨w12, hw12⟩ : ∃ W : World, W = w11.setCell ⟨ab, 3, none⟩ (.int .i64 nsz) := ⟨_, rfl⟩
        rw [← hw12]
        have Ab9 : Blk w12 ab 39 #[.int .i64 206, .slice A6 f6.length k6, .slice (some ⟨pb, 0, none⟩) 1 1, .int .i64 nsz] := by rw [hw12]; exact Ab8.set_ 3 _
        have Rb9 := Rb8.far (p := ⟨ab, 3, none⟩) (by show _ ≠ ab; omega) (.int .i64 nsz)
        have OP9 := hide (OP8.out.far (p := ⟨ab, 3, none⟩) hpoA (.int .i64 nsz))
        rw [← hw12] at Rb9 OP9
        have hB12 : Below w0.heap.size w w12 := by rw [hw12]; exact below_set hB11 (by omega) _
        clear hw12 cAb fAb lAb Ab8 Rb8 OP8 hB11
        have Rb := Rb9
        have OP := OP9
        clear Rb9 OP9
        have cAb := Ab9.cell
        have cRb := Rb.cell
        have fRb := Rb.frozen
        have lRb := Rb.lt
        have hpo := hpoR
        go_wp2_with fail
        obtain ⟨w90, hw90⟩ : ∃ W : World, W = ((((w12).setCell ⟨w.heap.size + 1 + 1 + 1, 0, none⟩ (.int .i64 206)).setCell ⟨w.heap.size + 1 + 1 + 1, 1, none⟩ (.slice A6 f6.length k6)).setCell ⟨w.heap.size + 1 + 1 + 1, 2, none⟩ (.slice (some ⟨pb, 0, none⟩) 1 1)).setCell ⟨w.heap.size + 1 + 1 + 1, 3, none⟩ (.int .i64 nsz) := ⟨_, rfl⟩
        rw [← hw90]
        have R9 : Blk w90 (w.heap.size + 1 + 1 + 1) 39 #[.int .i64 206, .slice A6 f6.length k6, .slice (some ⟨pb, 0, none⟩) 1 1, .int .i64 nsz] := by rw [hw90]; exact ((((Rb).set_ 0 _).set_ 1 _).set_ 2 _).set_ 3 _
        have hB90 : Below w0.heap.size w w90 := by rw [hw90]; exact below_set (below_set (below_set (below_set (hB12) (by omega) _) (by omega) _) (by omega) _) (by omega) _
        have HP9 := hide (show OwnL LP (ab + 1) w90 (.slice (some ⟨pb, 0, none⟩) 1 1) ps by rw [hw90]; exact ((((OP.out).far (p := ⟨w.heap.size + 1 + 1 + 1, 0, none⟩) hpo _).far (p := ⟨w.heap.size + 1 + 1 + 1, 1, none⟩) hpo _).far (p := ⟨w.heap.size + 1 + 1 + 1, 2, none⟩) hpo _).far (p := ⟨w.heap.size + 1 + 1 + 1, 3, none⟩) hpo _)
        clear hw90
        have cR9 := R9.cell
        refine bodyPost_ret (v := .agg #[.int .i64 206, .slice A6 f6.length k6, .slice (some ⟨pb, 0, none⟩) 1 1, .int .i64 nsz]) (by simp [results, Tryz.results29, go_sem, cR9]) rfl ?_
        exact ⟨206, nsz, A6, f6.length, k6, (some ⟨pb, 0, none⟩), 1, ps, by rw [HPL.out], .inr ⟨by rw [← HRE.out]; exact fun e => hR0 (by rw [e]; rfl), rfl, by rw [← HRE.out]; exact HFF.out⟩, OPS _ HP9.out, fun _ => HPI.out, HLL.out, hB90⟩
    · have g1 : ((r.length : Int) == 1) = false := by rw [beq_eq_false_iff_ne]; omega
      have hrn : 0 < r.length := by
        have := folded_ne HFd.out HRok.out (fun e => hR0 (by rw [e]; rfl))
        rcases r with _ | ⟨y, r⟩
        · exact absurd rfl this
        · simp
      have hri := hide (fun (x : Sp) (hx : x ∈ r) => show 0 ≤ x.1 ∧ x.1 < x.2 ∧ x.2 ≤ 1099511627776 ∧ (ln = -1 ∨ x.2 ≤ ln) from by
        have e1 := HFd.out.2.1 x hx
        have e2 : x.2 ≤ hv := folded_in HFd.out (hv := hv) (fun x hx => (HRin.out x hx).2.2) x hx
        have e3 : 0 ≤ x.1 := e1.1
        have e4 : x.1 < x.2 := e1.2.1
        omega)
      have HPA := hide (fun (W : World) (hW : RdL LSp W W.heap.size (.slice A3 r.length k3) r) (hB : Below w0.heap.size w W) => parts_any (.slice A3 r.length k3) r ln u hu W hW (HT.out.below (hw0.trans hB)) hrn (by omega) h1 h2 hri.out)
      have HBO := hide (boundary_any u hu w4 (HX.out.below (hw0.trans hB4)))
      have hbs := bnd_size u
      obtain ⟨bn, hbn⟩ : ∃ b, b = bndB u := ⟨_, rfl⟩
      rw [← hbn] at HPA HBO hbs
      clear hbn
      go_wp2_with fail
      refine HBO.out.mono ?_
      rintro e w5 ⟨rfl, hb5⟩
      clear HBO
      clear cMb cFb cRb cAb
      replace Mb := Mb.below hb5 Mb.lt
      replace Fb := Fb.below hb5 Fb.lt
      replace Rb := Rb.below hb5 Rb.lt
      replace Ab := Ab.below hb5 Ab.lt
      replace HO := hide (HO.out.below hb5 (Nat.le_refl _))
      replace HS := hide (HS.out.below hb5 (Nat.le_refl _))
      have hB5 := hB4.trans (hb5.mono (Nat.le_trans (Nat.le_trans hw0.size (Nat.le_refl _)) (hB4.size)))
      clear hb5 hB4
      have cMb := Mb.cell
      have cFb := Fb.cell
      have cRb := Rb.cell
      have cAb := Ab.cell
      go_wp2_with fail
      refine (putr_any _ _ (w.heap.size + 1 + 1) w0.heap.size _ fl _ hbx Fb HO.out (by omega)).mono ?_
      rintro e w6 ⟨rfl, u6, Fb6, O6, hb6, hk6⟩
      clear cMb cFb cRb cAb
      replace Mb := hk6.far _ _ _ (by omega) (by decide) Mb
      replace Rb := hk6.far _ _ _ (by omega) (by decide) Rb
      replace Ab := hk6.far _ _ _ (by omega) (by decide) Ab
      replace HS := hide (OwnL.farL HS.out hk6 (by decide) Fb (by decide))
      have hB6 := hB5.trans hb6
      clear Fb HO hb6 hk6 hB5
      have Fb := Fb6
      obtain ⟨f6, hf6, HO⟩ : ∃ f6 : List FieldL, f6.length ≤ fl.length + 1 ∧ Hid (OwnL LF w0.heap.size w6 u6 f6) := ⟨_, by rw [List.length_append, List.length_singleton]; exact Nat.le_refl _, O6⟩
      clear Fb6 O6
      obtain ⟨A6, k6, hv6, -, -⟩ := HO.out.rd.form
      subst hv6
      have cMb := Mb.cell
      have cFb := Fb.cell
      have cRb := Rb.cell
      have cAb := Ab.cell
      go_wp2_with fail
      refine (HPA.out w6 HS.out.rd hB6).mono ?_
      rintro e w7 ⟨v7, ps, rfl, O7, hsp, hpl, hpi, hb7⟩
      have HPI := hide hpi
      have HFF := hide (show Folded R (spansP ps) by rw [hsp]; exact HFd.out)
      have HLL := hide (show ps.length ≤ 1000 by omega)
      have hab6 := Ab.lt
      clear hpi hsp hpl HPA
      clear cMb cFb cRb cAb
      replace Mb := Mb.below hb7 Mb.lt
      replace Fb := Fb.below hb7 Fb.lt
      replace Rb := Rb.below hb7 Rb.lt
      replace Ab := Ab.below hb7 Ab.lt
      replace HO := hide (HO.out.below hb7 (Nat.le_refl _))
      have hB7 := hB6.trans (hb7.mono (Nat.le_trans (Nat.le_trans hw0.size (Nat.le_refl _)) (hB6.size)))
      clear hb7 hB6
      have cMb := Mb.cell
      have cFb := Fb.cell
      have cRb := Rb.cell
      have cAb := Ab.cell
      obtain ⟨A7, k7, hv7, -, -⟩ := O7.rd.form
      subst hv7
      obtain ⟨np, hnp⟩ : ∃ n, n = ps.length := ⟨_, rfl⟩
      rw [← hnp] at O7 ⊢
      have HPL := hide hnp.symm
      clear hnp
      have fAb := Ab.frozen
      have lAb := Ab.lt
      go_upto_region 17 with fail
      obtain ⟨w8, hw8⟩ : ∃ W : World, W = w7.setCell ⟨ab, 2, none⟩ (.slice A7 np k7) := ⟨_, rfl⟩
      rw [← hw8]
      have Ab7 : Blk w8 ab 39 #[.int .i64 206, .slice none 0 0, .slice A7 np k7, .int .i64 0] := by rw [hw8]; exact Ab.set_ 2 _
      have Rb7 := Rb.far (p := ⟨ab, 2, none⟩) (by show _ ≠ ab; omega) (.slice A7 np k7)
      have Fb7 := Fb.far (p := ⟨ab, 2, none⟩) (by show _ ≠ ab; omega) (.slice A7 np k7)
      rw [← hw8] at Rb7 Fb7
      have OP := hide (show OwnL LP (ab + 1) w8 (.slice A7 np k7) ps by
        rw [hw8]
        exact (O7.mono (by omega)).far (p := ⟨ab, 2, none⟩) (fun e => by have h9 : w6.heap.size ≤ ab := (O7.lt _ e).1; omega) _)
      have hB8 : Below w0.heap.size w w8 := by rw [hw8]; exact below_set hB7 (by omega) _
      clear hw8 O7 Ab Rb Fb hB7 fAb lAb cMb cFb cRb cAb Mb HS HFd hri
      have cAb := Ab7.cell
      have fAb := Ab7.frozen
      have cFb := Fb7.cell
      have lAb := Ab7.lt
      have OPS : ∀ W : World, OwnL LP (ab + 1) W (.slice A7 np k7) ps → OwnL LP w.heap.size W (.slice A7 ps.length k7) ps := fun W h => by rw [HPL.out]; exact h.mono (by omega)
      have hpoR : (Value.slice A7 np k7).ownBlock ≠ some (w.heap.size + 1 + 1 + 1) := fun e => by have := (OP.out.lt _ e).1; omega
      have hpoA : (Value.slice A7 np k7).ownBlock ≠ some ab := fun e => by have := (OP.out.lt _ e).1; omega
      go_upto_region 18 with fail
      obtain ⟨w10, hw10⟩ : ∃ W : World, W = w8.setCell ⟨ab, 1, none⟩ (.slice A6 f6.length k6) := ⟨_, rfl⟩
      rw [← hw10]
      have Ab8 : Blk w10 ab 39 #[.int .i64 206, .slice A6 f6.length k6, .slice A7 np k7, .int .i64 0] := by rw [hw10]; exact Ab7.set_ 1 _
      have Rb8 := Rb7.far (p := ⟨ab, 1, none⟩) (by show _ ≠ ab; omega) (.slice A6 f6.length k6)
      have OP8 := hide (OP.out.far (p := ⟨ab, 1, none⟩) hpoA (.slice A6 f6.length k6))
      rw [← hw10] at Rb8 OP8
      have hB10 : Below w0.heap.size w w10 := by rw [hw10]; exact below_set hB8 (by omega) _
      clear hw10 cAb fAb cFb lAb Ab7 Rb7 Fb7 OP hB8 HO
      have cAb := Ab8.cell
      go_wp2_with fail
      refine (size_any _ ps w10 OP8.out.rd HLL.out HPI.out).mono ?_
      rintro e w11 ⟨nsz, rfl, hb11⟩
      replace Ab8 := Ab8.below hb11 Ab8.lt
      replace Rb8 := Rb8.below hb11 Rb8.lt
      replace OP8 := hide (OP8.out.below hb11 (Nat.le_refl _))
      have hB11 := hB10.trans (hb11.mono (Nat.le_trans hz0 hB10.size))
      clear cAb hb11 hB10
      have cAb := Ab8.cell
      have fAb := Ab8.frozen
      have lAb := Ab8.lt
      go_upto_region 19 with fail
      obtain ⟨w12, hw12⟩ : ∃ W : World, W = w11.setCell ⟨ab, 3, none⟩ (.int .i64 nsz) := ⟨_, rfl⟩
      rw [← hw12]
      have Ab9 : Blk w12 ab 39 #[.int .i64 206, .slice A6 f6.length k6, .slice A7 np k7, .int .i64 nsz] := by rw [hw12]; exact Ab8.set_ 3 _
      have Rb9 := Rb8.far (p := ⟨ab, 3, none⟩) (by show _ ≠ ab; omega) (.int .i64 nsz)
      have OP9 := hide (OP8.out.far (p := ⟨ab, 3, none⟩) hpoA (.int .i64 nsz))
      rw [← hw12] at Rb9 OP9
      have hB12 : Below w0.heap.size w w12 := by rw [hw12]; exact below_set hB11 (by omega) _
      clear hw12 cAb fAb lAb Ab8 Rb8 OP8 hB11
      have Rb := Rb9
      have OP := OP9
      clear Rb9 OP9
      have cAb := Ab9.cell
      have cRb := Rb.cell
      have fRb := Rb.frozen
      have lRb := Rb.lt
      have hpo := hpoR
      go_wp2_with fail
      obtain ⟨w90, hw90⟩ : ∃ W : World, W = ((((w12).setCell ⟨w.heap.size + 1 + 1 + 1, 0, none⟩ (.int .i64 206)).setCell ⟨w.heap.size + 1 + 1 + 1, 1, none⟩ (.slice A6 f6.length k6)).setCell ⟨w.heap.size + 1 + 1 + 1, 2, none⟩ (.slice A7 np k7)).setCell ⟨w.heap.size + 1 + 1 + 1, 3, none⟩ (.int .i64 nsz) := ⟨_, rfl⟩
      rw [← hw90]
      have R9 : Blk w90 (w.heap.size + 1 + 1 + 1) 39 #[.int .i64 206, .slice A6 f6.length k6, .slice A7 np k7, .int .i64 nsz] := by rw [hw90]; exact ((((Rb).set_ 0 _).set_ 1 _).set_ 2 _).set_ 3 _
      have hB90 : Below w0.heap.size w w90 := by rw [hw90]; exact below_set (below_set (below_set (below_set (hB12) (by omega) _) (by omega) _) (by omega) _) (by omega) _
      have HP9 := hide (show OwnL LP (ab + 1) w90 (.slice A7 np k7) ps by rw [hw90]; exact ((((OP.out).far (p := ⟨w.heap.size + 1 + 1 + 1, 0, none⟩) hpo _).far (p := ⟨w.heap.size + 1 + 1 + 1, 1, none⟩) hpo _).far (p := ⟨w.heap.size + 1 + 1 + 1, 2, none⟩) hpo _).far (p := ⟨w.heap.size + 1 + 1 + 1, 3, none⟩) hpo _)
      clear hw90
      have cR9 := R9.cell
      refine bodyPost_ret (v := .agg #[.int .i64 206, .slice A6 f6.length k6, .slice A7 np k7, .int .i64 nsz]) (by simp [results, Tryz.results29, go_sem, cR9]) rfl ?_
      exact ⟨206, nsz, A6, f6.length, k6, A7, k7, ps, by rw [HPL.out], .inr ⟨by rw [← HRE.out]; exact fun e => hR0 (by rw [e]; rfl), rfl, by rw [← HRE.out]; exact HFF.out⟩, OPS _ HP9.out, fun _ => HPI.out, HLL.out, hB90⟩

end Go.Proofs.YtfcbmajogmojbaaGreatDoor
