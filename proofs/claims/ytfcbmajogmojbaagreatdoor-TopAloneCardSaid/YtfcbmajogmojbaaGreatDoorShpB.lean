/-
  The shape of an answer.
-/
import Derived.Test.YtfcbmajogmojbaaGreatDoorShpA
import Derived.Test.YtfcbmajogmojbaaGreatDoorFldB
import Derived.Deep.DeepCutAuto
namespace Go.Proofs.YtfcbmajogmojbaaGreatDoor
open Go.RowKit Go.Proofs
set_option linter.unusedVariables false
set_option linter.unusedSimpArgs false

def confV : Value := .agg #[.int .i64 4, .int .i64 0, .int .i64 64, .int .i64 8, .int .i64 2, .int .i64 1, .int .i64 8, .int .i64 400, .int .i64 400, .int .i64 16]
def ConfOk (w : World) (e : Ending) (w' : World) : Prop := e = .returned (.agg #[.int .i64 4, .int .i64 0, .int .i64 64, .int .i64 8, .int .i64 2, .int .i64 1, .int .i64 8, .int .i64 400, .int .i64 400, .int .i64 16]) ∧ Below w.heap.size w w'
def strongV (tg : ByteArray) (n : Int) : Value := .agg #[.string tg, .bool false, .int .i64 (-1), .int .i64 n, .int .i64 n, .int .i64 5, .int .i64 0, .int .i64 0, .slice none 0 0, .string ⟨#[]⟩, .bool true]
def StrongOk (tg : ByteArray) (n : Int) (w : World) (e : Ending) (w' : World) : Prop := e = .returned (.agg #[.string tg, .bool false, .int .i64 (-1), .int .i64 n, .int .i64 n, .int .i64 5, .int .i64 0, .int .i64 0, .slice none 0 0, .string ⟨#[]⟩, .bool true]) ∧ Below w.heap.size w w'

set_option maxRecDepth 100000 in
set_option maxHeartbeats 1000000 in
theorem conf_any (w : World) : Calls Tryz.prog 10 #[] w (ConfOk w) := by
  go_enter Tryz.func10, Tryz.ntmps10
  go_wp2
  exact bodyPost_ret (v := confV) (by simp [results, Tryz.results10, go_sem, confV]) rfl ⟨rfl, (Below.refl _ _).alloc (Nat.le_refl _) _⟩

set_option maxRecDepth 100000 in
set_option maxHeartbeats 1000000 in
theorem strong_any (tg : ByteArray) (n : Int) (w : World) : Calls Tryz.prog 32 #[.string tg, .int .i64 n] w (StrongOk tg n w) := by
  go_enter Tryz.func32, Tryz.ntmps32
  go_wp2
  exact bodyPost_ret (v := strongV tg n) (by simp [results, Tryz.results32, go_sem, strongV]) rfl ⟨rfl, (Below.refl _ _).alloc (Nat.le_refl _) _⟩

/-- What an answer comes to, by what its conditions came to. -/
def WholeQ (hd : Bool) (ln : Int) (sta siz : Int) (ps : List P3) : Prop := sta = 200 ∧ ps = (if hd = true ∨ ln = 0 then [] else [(⟨#[]⟩, 0, if ln = -1 then 4611686018427387904 else ln)])
def ShpQ (hd : Bool) (sl : List Sp) (ln hv oc : Int) (sta siz : Int) (ps : List P3) : Prop :=
  (oc = 3 ∧ sta = 304 ∧ siz = 0 ∧ ps = []) ∨ (oc = 4 ∧ sta = 412 ∧ siz = 0 ∧ ps = []) ∨
  ((oc ≠ 3 ∧ oc ≠ 4) ∧ ((oc = 1 ∧ hd = false ∧ 0 < sl.length ∧ costB hv 8 sl = false ∧ RanQ hv sl sta siz ps) ∨ (¬ (oc = 1 ∧ hd = false ∧ 0 < sl.length ∧ costB hv 8 sl = false) ∧ WholeQ hd ln sta siz ps)))
theorem AnsOk.mono {w0 w : World} {C C' : Prop} {Q Q' : Int → Int → List P3 → Prop} {e : Ending} {w' : World} (h : AnsOk w0 w C Q e w') (hc : C' → C) (hq : ∀ a b c, Q a b c → Q' a b c) : AnsOk w0 w C' Q' e w' := by
  obtain ⟨sta, siz, fA, fn, fc, pA, pc, ps, h1, h2, h3, h4, h5, h6⟩ := h
  exact ⟨sta, siz, fA, fn, fc, pA, pc, ps, h1, hq _ _ _ h2, h3, fun c => h4 (hc c), h5, h6⟩
theorem partIn_one (b : Int) (h0 : 0 ≤ b) (h1 : b ≤ 1099511627776) : ∀ p ∈ [((⟨#[]⟩, 0, b) : P3)], PartIn p := by
  intro p hp
  obtain rfl : p = (⟨#[]⟩, 0, b) := by simpa using hp
  exact ⟨by show (⟨#[]⟩ : ByteArray).size ≤ 1000; decide, by show (0 : Int) ≤ 0; omega, h0, h1⟩
theorem fieldsF_len (mt : ByteArray) (mk : Bool) (md ln hv fr wh er : Int) (ks : List ByteArray) (tn : ByteArray) (kp : Bool) (age : Int) (dt : List UInt8) : (fieldsF mt mk md ln hv fr wh er ks tn kp age dt).length ≤ 100 := by
  unfold fieldsF
  simp only [List.length_append, List.length_nil, List.length_cons]
  have a := flagF_len (someTag (mt, mk)) ([69, 84, 97, 103], textB (mt.data.toList, mk))
  have b := flagF_len (md != -1) ([76, 97, 115, 116, 45, 77, 111, 100, 105, 102, 105, 101, 100], dt)
  have c := flagF_len (decide (0 < ks.length)) ([83, 117, 114, 114, 111, 103, 97, 116, 101, 45, 75, 101, 121], Lib.join (ks.map (·.data.toList)) [32])
  have d := flagF_len (!(tn.toList == [])) ([88, 45, 84, 101, 110, 97, 110, 116], tn.data.toList)
  have e : (lenF ln hv).length ≤ 2 := by unfold lenF; split <;> simp
  omega
theorem nums_in {mt : ByteArray} {mk : Bool} {md ln hv fr wh er : Int} {ks : List ByteArray} {tn : ByteArray} (hm : metaOk mt mk md ln hv fr wh er ks tn = true) : -1 ≤ ln ∧ ln ≤ 1099511627776 ∧ 0 ≤ hv ∧ hv ≤ 1099511627776 ∧ (ln = -1 ∨ hv = ln) := by
  have hn : numsOk md ln hv = true := by unfold metaOk at hm; simp only [Bool.and_eq_true] at hm; exact hm.2.1
  unfold numsOk at hn
  simp only [decide_eq_true_eq] at hn
  omega

set_option maxRecDepth 100000 in
set_option maxHeartbeats 16000000 in
theorem shape_any (hd : Bool) (ob : ByteArray) (sA : Option Addr) (sc : Nat) (sl : List Sp) (m n : Value) (am an : Bool) (si un : Int) (rt : ByteArray) (rk : Bool) (mt : ByteArray) (mk : Bool) (md ln hv fr wh er : Int) (kA : Option Addr) (kc : Nat) (ks : List ByteArray) (tn : ByteArray) (kp : Bool) (oc : Int) (u : Nat) (hu : u < 16) (w : World) (hmt : mt.size ≤ 9223372036854775807) (htn : tn.size ≤ 9223372036854775807) (hr : RdL LSp w w.heap.size (.slice sA sl.length sc) sl) (hsl : sl.length ≤ 12) (hk : RdStrs w w.heap.size (.slice kA ks.length kc) ks) (hm : metaOk mt mk md ln hv fr wh er ks tn = true) (hT : Tab w) (hX : TabX w) :
    Calls Tryz.prog 8 #[.agg #[.bool hd, .string ob, .slice sA sl.length sc, m, n, .bool am, .bool an, .int .i64 si, .int .i64 un, .string rt, .bool rk], .agg #[.string mt, .bool mk, .int .i64 md, .int .i64 ln, .int .i64 hv, .int .i64 fr, .int .i64 wh, .int .i64 er, .slice kA ks.length kc, .string tn, .bool kp], .int .i64 oc, .agg #[.int .i64 4, .int .i64 0, .int .i64 64, .int .i64 8, .int .i64 2, .int .i64 1, .int .i64 8, .int .i64 400, .int .i64 400, .int .i64 16], .int .i64 (u : Int)] w (AnsOk w w (ln ≠ -1) (ShpQ hd sl ln hv oc)) := by
  have HR := hide hr
  have HK := hide hk
  have HT := hide hT
  have HX := hide hX
  have HM := hide hm
  have hnn := nums_in hm
  clear hr hk hT hX hm
  go_enter Tryz.func8, Tryz.ntmps8
  go_upto_region 1 with fail
  obtain ⟨w1, hw1⟩ : ∃ w1 : World, w1 = ((((w).alloc (.cells #[.bool hd, .string ob, .slice sA sl.length sc, m, n, .bool am, .bool an, .int .i64 si, .int .i64 un, .string rt, .bool rk] 29)).alloc (.cells #[.string mt, .bool mk, .int .i64 md, .int .i64 ln, .int .i64 hv, .int .i64 fr, .int .i64 wh, .int .i64 er, .slice kA ks.length kc, .string tn, .bool kp] 32)).alloc (.cells #[.int .i64 4, .int .i64 0, .int .i64 64, .int .i64 8, .int .i64 2, .int .i64 1, .int .i64 8, .int .i64 400, .int .i64 400, .int .i64 16] 43)).alloc (.cells #[.int .i64 0, .slice none 0 0, .slice none 0 0, .int .i64 0] 39) := ⟨_, rfl⟩
  rw [← hw1]
  have hB1 : Below w.heap.size w w1 := by rw [hw1]; exact (((((Below.refl _ _).alloc (Nat.le_refl _) _).alloc (by simp; try omega) _).alloc (by simp; try omega) _).alloc (by simp; try omega) _)
  have Qb : Blk w1 (w.heap.size) 29 #[.bool hd, .string ob, .slice sA sl.length sc, m, n, .bool am, .bool an, .int .i64 si, .int .i64 un, .string rt, .bool rk] := by rw [hw1]; exact ((((Blk.new _ _ _).alloc _).alloc _).alloc _)
  have Mb : Blk w1 (w.heap.size + 1) 32 #[.string mt, .bool mk, .int .i64 md, .int .i64 ln, .int .i64 hv, .int .i64 fr, .int .i64 wh, .int .i64 er, .slice kA ks.length kc, .string tn, .bool kp] := by rw [hw1]; exact (((Blk.new' (by simp)).alloc _).alloc _)
  have Cb : Blk w1 (w.heap.size + 1 + 1) 43 #[.int .i64 4, .int .i64 0, .int .i64 64, .int .i64 8, .int .i64 2, .int .i64 1, .int .i64 8, .int .i64 400, .int .i64 400, .int .i64 16] := by rw [hw1]; exact ((Blk.new' (by simp)).alloc _)
  have Rb : Blk w1 (w.heap.size + 1 + 1 + 1) 39 #[.int .i64 0, .slice none 0 0, .slice none 0 0, .int .i64 0] := by rw [hw1]; exact (Blk.new' (by simp))
  clear hw1
  have cQb := Qb.cell
  have cMb := Mb.cell
  have cCb := Cb.cell
  have cRb := Rb.cell
  have hw1 := hB1.size
  go_wp2_with fail
  refine (fields_yes mt mk md ln hv fr wh er _ tn kp 0 ks w1 hmt htn ((HK.out.below hB1).mono hB1.size) (HT.out.below hB1) HM.out (by decide)).mono ?_
  rintro e w2 ⟨v2, dt, rfl, -, O2, hb2⟩
  obtain ⟨fl, hfl, HO⟩ : ∃ fl : List FieldL, fl.length ≤ 100 ∧ Hid (OwnL LF w1.heap.size w2 v2 fl) := ⟨_, fieldsF_len mt mk md ln hv fr wh er ks tn kp 0 dt, O2⟩
  clear O2
  have h12 := hb2
  have HR1 := hide ((HR.out.below hB1).mono hB1.size)
  have HT1 := hide (HT.out.below hB1)
  have HX1 := hide (HX.out.below hB1)
  have hq4 := Rb.lt
  clear cQb cMb cCb cRb
  replace Qb := Qb.below hb2 Qb.lt
  replace Mb := Mb.below hb2 Mb.lt
  replace Cb := Cb.below hb2 Cb.lt
  replace Rb := Rb.below hb2 Rb.lt
  have hB2 := hB1.trans (hb2.mono hB1.size)
  clear hb2 hB1
  have cQb := Qb.cell
  have cMb := Mb.cell
  have cCb := Cb.cell
  have cRb := Rb.cell
  obtain ⟨A2, k2, hv2, -, -⟩ := HO.out.rd.form
  subst hv2
  obtain ⟨nf, hnf⟩ : ∃ n, n = fl.length := ⟨_, rfl⟩
  rw [← hnf] at HO ⊢
  have HNF := hide hnf
  have HFL := hide hfl
  clear hnf hfl
  by_cases ho3 : oc = 3
  · subst ho3
    have fRb := Rb.frozen
    have lRb := Rb.lt
    go_wp2_with fail
    obtain ⟨w90, hw90⟩ : ∃ W : World, W = ((((w2).setCell ⟨w.heap.size + 1 + 1 + 1, 0, none⟩ (.int .i64 304)).setCell ⟨w.heap.size + 1 + 1 + 1, 1, none⟩ (.slice A2 nf k2)).setCell ⟨w.heap.size + 1 + 1 + 1, 2, none⟩ (.slice none 0 0)).setCell ⟨w.heap.size + 1 + 1 + 1, 3, none⟩ (.int .i64 0) := ⟨_, rfl⟩
    rw [← hw90]
    have R9 : Blk w90 (w.heap.size + 1 + 1 + 1) 39 #[.int .i64 304, .slice A2 nf k2, .slice none 0 0, .int .i64 0] := by rw [hw90]; exact ((((Rb).set_ 0 _).set_ 1 _).set_ 2 _).set_ 3 _
    have hB90 : Below w.heap.size w w90 := by rw [hw90]; exact below_set (below_set (below_set (below_set (hB2) (by omega) _) (by omega) _) (by omega) _) (by omega) _
    clear hw90
    have cR9 := R9.cell
    refine bodyPost_ret (v := .agg #[.int .i64 304, .slice A2 nf k2, .slice none 0 0, .int .i64 0]) (by simp [results, Tryz.results8, go_sem, cR9]) rfl ?_
    exact ⟨304, 0, A2, nf, k2, none, 0, [], rfl, .inl ⟨rfl, rfl, rfl, rfl⟩, OwnL.nil _ _ _, (fun _ p hp => by cases hp), by show 0 ≤ 1000; omega, hB90⟩
  · have d3 : (oc == 3) = false := by rw [beq_eq_false_iff_ne]; exact ho3
    by_cases ho4 : oc = 4
    · subst ho4
      have fRb := Rb.frozen
      have lRb := Rb.lt
      go_wp2_with fail
      obtain ⟨w90, hw90⟩ : ∃ W : World, W = ((((w2).setCell ⟨w.heap.size + 1 + 1 + 1, 0, none⟩ (.int .i64 412)).setCell ⟨w.heap.size + 1 + 1 + 1, 1, none⟩ (.slice A2 nf k2)).setCell ⟨w.heap.size + 1 + 1 + 1, 2, none⟩ (.slice none 0 0)).setCell ⟨w.heap.size + 1 + 1 + 1, 3, none⟩ (.int .i64 0) := ⟨_, rfl⟩
      rw [← hw90]
      have R9 : Blk w90 (w.heap.size + 1 + 1 + 1) 39 #[.int .i64 412, .slice A2 nf k2, .slice none 0 0, .int .i64 0] := by rw [hw90]; exact ((((Rb).set_ 0 _).set_ 1 _).set_ 2 _).set_ 3 _
      have hB90 : Below w.heap.size w w90 := by rw [hw90]; exact below_set (below_set (below_set (below_set (hB2) (by omega) _) (by omega) _) (by omega) _) (by omega) _
      clear hw90
      have cR9 := R9.cell
      refine bodyPost_ret (v := .agg #[.int .i64 412, .slice A2 nf k2, .slice none 0 0, .int .i64 0]) (by simp [results, Tryz.results8, go_sem, cR9]) rfl ?_
      exact ⟨412, 0, A2, nf, k2, none, 0, [], rfl, .inr (.inl ⟨rfl, rfl, rfl, rfl⟩), OwnL.nil _ _ _, (fun _ p hp => by cases hp), by show 0 ≤ 1000; omega, hB90⟩
    · have d4 : (oc == 4) = false := by rw [beq_eq_false_iff_ne]; exact ho4
      by_cases hc : oc = 1 ∧ hd = false ∧ 0 < sl.length
      · obtain ⟨rfl, rfl, hsl0⟩ := hc
        have hsp : decide (0 < sl.length) = true := decide_eq_true hsl0
        go_wp2_with fail
        refine (costly_any _ sl hv 8 w2 ((HR.out.below hB2).mono hB2.size) (by omega) (by omega) hnn.2.2.1 hnn.2.2.2.1).mono ?_
        rintro e w3 ⟨rfl, hb3⟩
        have h13 := h12.trans (hb3.mono h12.size)
        clear cQb cMb cCb cRb
        replace Qb := Qb.below hb3 Qb.lt
        replace Mb := Mb.below hb3 Mb.lt
        replace Cb := Cb.below hb3 Cb.lt
        replace Rb := Rb.below hb3 Rb.lt
        replace HO := hide (HO.out.below hb3 (Nat.le_refl _))
        have hB3 := hB2.trans (hb3.mono hB2.size)
        clear hb3 hB2
        have cQb := Qb.cell
        have cMb := Mb.cell
        have cCb := Cb.cell
        have cRb := Rb.cell
        cases hcb : costB hv 8 sl
        · have HCB := hide hcb
          clear hcb
          have HO2 := hide (show OwnL LF w1.heap.size w3 (.slice A2 fl.length k2) fl by rw [← HNF.out]; exact HO.out)
          have HRG := hide (ranged_any false ob sA sc sl m n am an si un rt rk mt mk md ln hv fr wh er (.slice kA ks.length kc) tn kp A2 k2 fl u hu w1 w3 h13 HR1.out hsl HO2.out HFL.out HT1.out HX1.out hnn.1 hnn.2.1 hnn.2.2.1 hnn.2.2.2.1 hnn.2.2.2.2)
          rw [← HNF.out] at HRG
          go_wp2_with fail
          refine HRG.out.mono ?_
          rintro e w4 ⟨sta, siz, fA4, fn4, fc4, pA4, pc4, ps, rfl, hq, hrp, hpi, hpl, hb4⟩
          replace Rb := Rb.below hb4 hq4
          have hB4 := hB3.trans (hb4.mono hw1)
          have HP := hide hrp
          have HPI := hide (hpi trivial)
          have HPL := hide hpl
          have HQ := hide hq
          clear hrp hpi hpl hq cQb cMb cCb cRb Qb Mb Cb HRG HO2 HO
          obtain ⟨np, hnp⟩ : ∃ n, n = ps.length := ⟨_, rfl⟩
          rw [← hnp] at HP ⊢
          have HNP := hide hnp.symm
          clear hnp
          have cRb := Rb.cell
          have fRb := Rb.frozen
          have lRb := Rb.lt
          have hw3 := h13.size
          have hpo : (Value.slice pA4 np pc4).ownBlock ≠ some (w.heap.size + 1 + 1 + 1) := fun e => by have := (HP.out.lt _ e).1; omega
          go_wp2_with fail
          obtain ⟨w90, hw90⟩ : ∃ W : World, W = ((((w4).setCell ⟨w.heap.size + 1 + 1 + 1, 0, none⟩ (.int .i64 sta)).setCell ⟨w.heap.size + 1 + 1 + 1, 1, none⟩ (.slice fA4 fn4 fc4)).setCell ⟨w.heap.size + 1 + 1 + 1, 2, none⟩ (.slice pA4 np pc4)).setCell ⟨w.heap.size + 1 + 1 + 1, 3, none⟩ (.int .i64 siz) := ⟨_, rfl⟩
          rw [← hw90]
          have R9 : Blk w90 (w.heap.size + 1 + 1 + 1) 39 #[.int .i64 sta, .slice fA4 fn4 fc4, .slice pA4 np pc4, .int .i64 siz] := by rw [hw90]; exact ((((Rb).set_ 0 _).set_ 1 _).set_ 2 _).set_ 3 _
          have hB90 : Below w.heap.size w w90 := by rw [hw90]; exact below_set (below_set (below_set (below_set (hB4) (by omega) _) (by omega) _) (by omega) _) (by omega) _
          have HP9 := hide (show OwnL LP w.heap.size w90 (.slice pA4 np pc4) ps by rw [hw90]; exact (((((HP.out).far (p := ⟨w.heap.size + 1 + 1 + 1, 0, none⟩) hpo _).far (p := ⟨w.heap.size + 1 + 1 + 1, 1, none⟩) hpo _).far (p := ⟨w.heap.size + 1 + 1 + 1, 2, none⟩) hpo _).far (p := ⟨w.heap.size + 1 + 1 + 1, 3, none⟩) hpo _).mono (by omega))
          clear hw90
          have cR9 := R9.cell
          refine bodyPost_ret (v := .agg #[.int .i64 sta, .slice fA4 fn4 fc4, .slice pA4 np pc4, .int .i64 siz]) (by simp [results, Tryz.results8, go_sem, cR9]) rfl ?_
          exact ⟨sta, siz, fA4, fn4, fc4, pA4, pc4, ps, by rw [HNP.out], .inr (.inr ⟨⟨ho3, ho4⟩, .inl ⟨rfl, rfl, hsl0, HCB.out, HQ.out⟩⟩), by rw [HNP.out]; exact HP9.out, fun _ => HPI.out, HPL.out, hB90⟩
        · have HCB := hide hcb
          clear hcb
          have HW := hide (show ∀ siz ps, WholeQ false ln 200 siz ps → ShpQ false sl ln hv 1 200 siz ps from fun siz ps h => .inr (.inr ⟨⟨ho3, ho4⟩, .inr ⟨fun h9 => by rw [HCB.out] at h9; exact absurd h9.2.2.2 (by decide), h⟩⟩))
          go_upto_region 10 with fail
          obtain ⟨w20, hw20⟩ : ∃ W : World, W = w3.alloc (.cells #[.int .i64 200, .slice A2 nf k2, .slice none 0 0, .int .i64 ln] 39) := ⟨_, rfl⟩
          rw [← hw20]
          have Ab : Blk w20 w3.heap.size 39 #[.int .i64 200, .slice A2 nf k2, .slice none 0 0, .int .i64 ln] := by rw [hw20]; exact Blk.new _ _ _
          have hl3 := Rb.lt
          have hla := Ab.lt
          replace Qb := Qb.alloc (.cells #[.int .i64 200, .slice A2 nf k2, .slice none 0 0, .int .i64 ln] 39)
          replace Mb := Mb.alloc (.cells #[.int .i64 200, .slice A2 nf k2, .slice none 0 0, .int .i64 ln] 39)
          replace Rb := Rb.alloc (.cells #[.int .i64 200, .slice A2 nf k2, .slice none 0 0, .int .i64 ln] 39)
          rw [← hw20] at Qb Mb Rb
          have hB20 : Below w.heap.size w w20 := by rw [hw20]; exact hB3.alloc hB3.size _
          obtain ⟨ab, hab⟩ : ∃ n, n = w3.heap.size := ⟨_, rfl⟩
          rw [← hab] at Ab hl3 hla ⊢
          clear hw20 hab hB3 cQb cMb cRb cCb Cb
          have cQb := Qb.cell
          have cMb := Mb.cell
          have cRb := Rb.cell
          have cAb := Ab.cell
          have fRb := Rb.frozen
          have lRb := Rb.lt
          by_cases hl0 : ln = 0
          · subst hl0
            go_wp2_with fail
            obtain ⟨w90, hw90⟩ : ∃ W : World, W = ((((w20).setCell ⟨w.heap.size + 1 + 1 + 1, 0, none⟩ (.int .i64 200)).setCell ⟨w.heap.size + 1 + 1 + 1, 1, none⟩ (.slice A2 nf k2)).setCell ⟨w.heap.size + 1 + 1 + 1, 2, none⟩ (.slice none 0 0)).setCell ⟨w.heap.size + 1 + 1 + 1, 3, none⟩ (.int .i64 0) := ⟨_, rfl⟩
            rw [← hw90]
            have R9 : Blk w90 (w.heap.size + 1 + 1 + 1) 39 #[.int .i64 200, .slice A2 nf k2, .slice none 0 0, .int .i64 0] := by rw [hw90]; exact ((((Rb).set_ 0 _).set_ 1 _).set_ 2 _).set_ 3 _
            have hB90 : Below w.heap.size w w90 := by rw [hw90]; exact below_set (below_set (below_set (below_set (hB20) (by omega) _) (by omega) _) (by omega) _) (by omega) _
            clear hw90
            have cR9 := R9.cell
            refine bodyPost_ret (v := .agg #[.int .i64 200, .slice A2 nf k2, .slice none 0 0, .int .i64 0]) (by simp [results, Tryz.results8, go_sem, cR9]) rfl ?_
            exact ⟨200, 0, A2, nf, k2, none, 0, [], rfl, HW.out _ _ ⟨rfl, by rw [if_pos (.inr rfl)]⟩, OwnL.nil _ _ _, (fun _ p hp => by cases hp), by show 0 ≤ 1000; omega, hB90⟩
          · have g0 : (ln == 0) = false := by rw [beq_eq_false_iff_ne]; exact hl0
            by_cases hl1 : ln = -1
            · subst hl1
              go_upto_region 13 with fail
              obtain ⟨w21, hw21⟩ : ∃ W : World, W = w20.alloc (.cells #[.int .i64 0, .int .i64 (-1)] 67) := ⟨_, rfl⟩
              rw [← hw21]
              have Sb : Blk w21 w20.heap.size 67 #[.int .i64 0, .int .i64 (-1)] := by rw [hw21]; exact Blk.new _ _ _
              replace Qb := Qb.alloc (.cells #[.int .i64 0, .int .i64 (-1)] 67)
              replace Mb := Mb.alloc (.cells #[.int .i64 0, .int .i64 (-1)] 67)
              replace Rb := Rb.alloc (.cells #[.int .i64 0, .int .i64 (-1)] 67)
              replace Ab := Ab.alloc (.cells #[.int .i64 0, .int .i64 (-1)] 67)
              rw [← hw21] at Qb Mb Rb Ab
              have hB21 : Below w.heap.size w w21 := by rw [hw21]; exact hB20.alloc hB20.size _
              skip
              obtain ⟨sb, hsb⟩ : ∃ n, n = w20.heap.size := ⟨_, rfl⟩
              rw [← hsb] at Sb hla ⊢
              clear hw21 hsb hB20 cQb cMb cRb cAb fRb lRb
              have cQb := Qb.cell
              have cMb := Mb.cell
              have cRb := Rb.cell
              have cAb := Ab.cell
              have cSb := Sb.cell
              have fSb := Sb.frozen
              have lSb := Sb.lt
              go_upto_region 15 with fail
              obtain ⟨w22, hw22⟩ : ∃ W : World, W = w21.setCell ⟨sb, 1, none⟩ (.int .i64 4611686018427387904) := ⟨_, rfl⟩
              rw [← hw22]
              have Sb2 : Blk w22 sb 67 #[.int .i64 0, .int .i64 4611686018427387904] := by rw [hw22]; exact Sb.set_ 1 _
              replace Rb := Rb.far (p := ⟨sb, 1, none⟩) (by show _ ≠ sb; omega) (.int .i64 4611686018427387904)
              replace Ab := Ab.far (p := ⟨sb, 1, none⟩) (by show _ ≠ sb; omega) (.int .i64 4611686018427387904)
              rw [← hw22] at Rb Ab
              have hB22 : Below w.heap.size w w22 := by rw [hw22]; exact below_set hB21 (by omega) _
              clear hw22 hB21 cQb cMb cRb cAb cSb fSb lSb Qb Mb Sb
              have cRb := Rb.cell
              have cAb := Ab.cell
              have cSb2 := Sb2.cell
              have fAb := Ab.frozen
              have lAb := Ab.lt
              go_upto_region 16 with fail
              obtain ⟨w24, hw24⟩ : ∃ W : World, W = (w22.setCell ⟨ab, 2, none⟩ (.slice (some ⟨w22.heap.size, 0, none⟩) 1 1)).alloc (.cells #[.string ⟨#[]⟩, .int .i64 0, .int .i64 4611686018427387904] 75) := ⟨_, rfl⟩
              rw [← hw24]
              obtain ⟨pb, hpb⟩ : ∃ n, n = w22.heap.size := ⟨_, rfl⟩
              have lRb := Rb.lt
              rw [← hpb] at hw24 lAb lRb ⊢
              have Ab4 : Blk w24 ab 39 #[.int .i64 200, .slice A2 nf k2, .slice (some ⟨pb, 0, none⟩) 1 1, .int .i64 (-1)] := by rw [hw24]; exact (Ab.set_ 2 _).alloc _
              have Pb : Blk w24 pb 75 #[.string ⟨#[]⟩, .int .i64 0, .int .i64 4611686018427387904] := by rw [hw24]; exact Blk.new' (by rw [hpb]; simp [World.setCell])
              have Rb4 := (Rb.far (p := ⟨ab, 2, none⟩) (by show _ ≠ ab; omega) (.slice (some ⟨pb, 0, none⟩) 1 1)).alloc (.cells #[.string ⟨#[]⟩, .int .i64 0, .int .i64 4611686018427387904] 75)
              rw [← hw24] at Rb4
              have hB24 : Below w.heap.size w w24 := by rw [hw24]; exact (below_set hB22 (by omega) _).alloc (by show _ ≤ (World.setCell _ _ _).heap.size; simp [World.setCell]; have := hB22.size; omega) _
              have HP := hide (OwnL.one_ (L := LP) (x := (⟨#[]⟩, 0, 4611686018427387904)) (B := w.heap.size + 1 + 1 + 1 + 1) Pb rfl (by omega))
              have hpo : (Value.slice (some ⟨pb, 0, none⟩) 1 1).ownBlock ≠ some (w.heap.size + 1 + 1 + 1) := fun e => by have h9 : w.heap.size + 1 + 1 + 1 + 1 ≤ w.heap.size + 1 + 1 + 1 := (HP.out.lt _ e).1; omega
              clear hw24 hpb Ab Rb hB22 cAb cRb
              have Rb := Rb4
              have cAb := Ab4.cell
              have cRb := Rb.cell
              have fRb := Rb.frozen
              have lRb := Rb.lt
              go_wp2_with fail
              obtain ⟨w90, hw90⟩ : ∃ W : World, W = ((((w24).setCell ⟨w.heap.size + 1 + 1 + 1, 0, none⟩ (.int .i64 200)).setCell ⟨w.heap.size + 1 + 1 + 1, 1, none⟩ (.slice A2 nf k2)).setCell ⟨w.heap.size + 1 + 1 + 1, 2, none⟩ (.slice (some ⟨pb, 0, none⟩) 1 1)).setCell ⟨w.heap.size + 1 + 1 + 1, 3, none⟩ (.int .i64 (-1)) := ⟨_, rfl⟩
              rw [← hw90]
              have R9 : Blk w90 (w.heap.size + 1 + 1 + 1) 39 #[.int .i64 200, .slice A2 nf k2, .slice (some ⟨pb, 0, none⟩) 1 1, .int .i64 (-1)] := by rw [hw90]; exact ((((Rb).set_ 0 _).set_ 1 _).set_ 2 _).set_ 3 _
              have hB90 : Below w.heap.size w w90 := by rw [hw90]; exact below_set (below_set (below_set (below_set (hB24) (by omega) _) (by omega) _) (by omega) _) (by omega) _
              have HP9 := hide (show OwnL LP w.heap.size w90 (.slice (some ⟨pb, 0, none⟩) 1 1) _ by rw [hw90]; exact (((((HP.out).far (p := ⟨w.heap.size + 1 + 1 + 1, 0, none⟩) hpo _).far (p := ⟨w.heap.size + 1 + 1 + 1, 1, none⟩) hpo _).far (p := ⟨w.heap.size + 1 + 1 + 1, 2, none⟩) hpo _).far (p := ⟨w.heap.size + 1 + 1 + 1, 3, none⟩) hpo _).mono (by omega))
              clear hw90
              have cR9 := R9.cell
              refine bodyPost_ret (v := .agg #[.int .i64 200, .slice A2 nf k2, .slice (some ⟨pb, 0, none⟩) 1 1, .int .i64 (-1)]) (by simp [results, Tryz.results8, go_sem, cR9]) rfl ?_
              exact ⟨200, (-1), A2, nf, k2, some ⟨pb, 0, none⟩, 1, [(⟨#[]⟩, 0, 4611686018427387904)], rfl, HW.out _ _ ⟨rfl, by rw [if_neg (fun h => h.elim (fun h => by cases h) (fun h => by first | exact hl0 h | (revert h; decide))), if_pos rfl]⟩, HP9.out, (fun h => by first | exact h.elim | exact absurd rfl h), by show 1 ≤ 1000; omega, hB90⟩
            · have g1 : (ln == -1) = false := by rw [beq_eq_false_iff_ne]; exact hl1
              go_upto_region 13 with fail
              obtain ⟨w21, hw21⟩ : ∃ W : World, W = w20.alloc (.cells #[.int .i64 0, .int .i64 ln] 67) := ⟨_, rfl⟩
              rw [← hw21]
              have Sb : Blk w21 w20.heap.size 67 #[.int .i64 0, .int .i64 ln] := by rw [hw21]; exact Blk.new _ _ _
              replace Qb := Qb.alloc (.cells #[.int .i64 0, .int .i64 ln] 67)
              replace Mb := Mb.alloc (.cells #[.int .i64 0, .int .i64 ln] 67)
              replace Rb := Rb.alloc (.cells #[.int .i64 0, .int .i64 ln] 67)
              replace Ab := Ab.alloc (.cells #[.int .i64 0, .int .i64 ln] 67)
              rw [← hw21] at Qb Mb Rb Ab
              have hB21 : Below w.heap.size w w21 := by rw [hw21]; exact hB20.alloc hB20.size _
              skip
              obtain ⟨sb, hsb⟩ : ∃ n, n = w20.heap.size := ⟨_, rfl⟩
              rw [← hsb] at Sb hla ⊢
              clear hw21 hsb hB20 cQb cMb cRb cAb fRb lRb
              have cQb := Qb.cell
              have cMb := Mb.cell
              have cRb := Rb.cell
              have cAb := Ab.cell
              have cSb := Sb.cell
              have fAb := Ab.frozen
              have lAb := Ab.lt
              go_upto_region 16 with fail
              obtain ⟨w24, hw24⟩ : ∃ W : World, W = (w21.setCell ⟨ab, 2, none⟩ (.slice (some ⟨w21.heap.size, 0, none⟩) 1 1)).alloc (.cells #[.string ⟨#[]⟩, .int .i64 0, .int .i64 ln] 75) := ⟨_, rfl⟩
              rw [← hw24]
              obtain ⟨pb, hpb⟩ : ∃ n, n = w21.heap.size := ⟨_, rfl⟩
              have lRb := Rb.lt
              rw [← hpb] at hw24 lAb lRb ⊢
              have Ab4 : Blk w24 ab 39 #[.int .i64 200, .slice A2 nf k2, .slice (some ⟨pb, 0, none⟩) 1 1, .int .i64 ln] := by rw [hw24]; exact (Ab.set_ 2 _).alloc _
              have Pb : Blk w24 pb 75 #[.string ⟨#[]⟩, .int .i64 0, .int .i64 ln] := by rw [hw24]; exact Blk.new' (by rw [hpb]; simp [World.setCell])
              have Rb4 := (Rb.far (p := ⟨ab, 2, none⟩) (by show _ ≠ ab; omega) (.slice (some ⟨pb, 0, none⟩) 1 1)).alloc (.cells #[.string ⟨#[]⟩, .int .i64 0, .int .i64 ln] 75)
              rw [← hw24] at Rb4
              have hB24 : Below w.heap.size w w24 := by rw [hw24]; exact (below_set hB21 (by omega) _).alloc (by show _ ≤ (World.setCell _ _ _).heap.size; simp [World.setCell]; have := hB21.size; omega) _
              have HP := hide (OwnL.one_ (L := LP) (x := (⟨#[]⟩, 0, ln)) (B := w.heap.size + 1 + 1 + 1 + 1) Pb rfl (by omega))
              have hpo : (Value.slice (some ⟨pb, 0, none⟩) 1 1).ownBlock ≠ some (w.heap.size + 1 + 1 + 1) := fun e => by have h9 : w.heap.size + 1 + 1 + 1 + 1 ≤ w.heap.size + 1 + 1 + 1 := (HP.out.lt _ e).1; omega
              clear hw24 hpb Ab Rb hB21 cAb cRb
              have Rb := Rb4
              have cAb := Ab4.cell
              have cRb := Rb.cell
              have fRb := Rb.frozen
              have lRb := Rb.lt
              go_wp2_with fail
              obtain ⟨w90, hw90⟩ : ∃ W : World, W = ((((w24).setCell ⟨w.heap.size + 1 + 1 + 1, 0, none⟩ (.int .i64 200)).setCell ⟨w.heap.size + 1 + 1 + 1, 1, none⟩ (.slice A2 nf k2)).setCell ⟨w.heap.size + 1 + 1 + 1, 2, none⟩ (.slice (some ⟨pb, 0, none⟩) 1 1)).setCell ⟨w.heap.size + 1 + 1 + 1, 3, none⟩ (.int .i64 ln) := ⟨_, rfl⟩
              rw [← hw90]
              have R9 : Blk w90 (w.heap.size + 1 + 1 + 1) 39 #[.int .i64 200, .slice A2 nf k2, .slice (some ⟨pb, 0, none⟩) 1 1, .int .i64 ln] := by rw [hw90]; exact ((((Rb).set_ 0 _).set_ 1 _).set_ 2 _).set_ 3 _
              have hB90 : Below w.heap.size w w90 := by rw [hw90]; exact below_set (below_set (below_set (below_set (hB24) (by omega) _) (by omega) _) (by omega) _) (by omega) _
              have HP9 := hide (show OwnL LP w.heap.size w90 (.slice (some ⟨pb, 0, none⟩) 1 1) _ by rw [hw90]; exact (((((HP.out).far (p := ⟨w.heap.size + 1 + 1 + 1, 0, none⟩) hpo _).far (p := ⟨w.heap.size + 1 + 1 + 1, 1, none⟩) hpo _).far (p := ⟨w.heap.size + 1 + 1 + 1, 2, none⟩) hpo _).far (p := ⟨w.heap.size + 1 + 1 + 1, 3, none⟩) hpo _).mono (by omega))
              clear hw90
              have cR9 := R9.cell
              refine bodyPost_ret (v := .agg #[.int .i64 200, .slice A2 nf k2, .slice (some ⟨pb, 0, none⟩) 1 1, .int .i64 ln]) (by simp [results, Tryz.results8, go_sem, cR9]) rfl ?_
              exact ⟨200, ln, A2, nf, k2, some ⟨pb, 0, none⟩, 1, [(⟨#[]⟩, 0, ln)], rfl, HW.out _ _ ⟨rfl, by rw [if_neg (fun h => h.elim (fun h => by cases h) (fun h => by first | exact hl0 h | (revert h; decide))), if_neg hl1]⟩, HP9.out, (fun _ => partIn_one ln (by omega) (by omega)), by show 1 ≤ 1000; omega, hB90⟩
      · have HW := hide (show ∀ siz ps, WholeQ hd ln 200 siz ps → ShpQ hd sl ln hv oc 200 siz ps from fun siz ps h => .inr (.inr ⟨⟨ho3, ho4⟩, .inr ⟨fun h9 => hc ⟨h9.1, h9.2.1, h9.2.2.1⟩, h⟩⟩))
        by_cases ho1 : oc = 1
        · subst ho1
          cases hd
          · have hsp : decide (0 < sl.length) = false := decide_eq_false (fun h => hc ⟨rfl, rfl, h⟩)
            go_upto_region 10 with fail
            obtain ⟨w20, hw20⟩ : ∃ W : World, W = w2.alloc (.cells #[.int .i64 200, .slice A2 nf k2, .slice none 0 0, .int .i64 ln] 39) := ⟨_, rfl⟩
            rw [← hw20]
            have Ab : Blk w20 w2.heap.size 39 #[.int .i64 200, .slice A2 nf k2, .slice none 0 0, .int .i64 ln] := by rw [hw20]; exact Blk.new _ _ _
            have hl3 := Rb.lt
            have hla := Ab.lt
            replace Qb := Qb.alloc (.cells #[.int .i64 200, .slice A2 nf k2, .slice none 0 0, .int .i64 ln] 39)
            replace Mb := Mb.alloc (.cells #[.int .i64 200, .slice A2 nf k2, .slice none 0 0, .int .i64 ln] 39)
            replace Rb := Rb.alloc (.cells #[.int .i64 200, .slice A2 nf k2, .slice none 0 0, .int .i64 ln] 39)
            rw [← hw20] at Qb Mb Rb
            have hB20 : Below w.heap.size w w20 := by rw [hw20]; exact hB2.alloc hB2.size _
            obtain ⟨ab, hab⟩ : ∃ n, n = w2.heap.size := ⟨_, rfl⟩
            rw [← hab] at Ab hl3 hla ⊢
            clear hw20 hab hB2 cQb cMb cRb cCb Cb
            have cQb := Qb.cell
            have cMb := Mb.cell
            have cRb := Rb.cell
            have cAb := Ab.cell
            have fRb := Rb.frozen
            have lRb := Rb.lt
            by_cases hl0 : ln = 0
            · subst hl0
              go_wp2_with fail
              obtain ⟨w90, hw90⟩ : ∃ W : World, W = ((((w20).setCell ⟨w.heap.size + 1 + 1 + 1, 0, none⟩ (.int .i64 200)).setCell ⟨w.heap.size + 1 + 1 + 1, 1, none⟩ (.slice A2 nf k2)).setCell ⟨w.heap.size + 1 + 1 + 1, 2, none⟩ (.slice none 0 0)).setCell ⟨w.heap.size + 1 + 1 + 1, 3, none⟩ (.int .i64 0) := ⟨_, rfl⟩
              rw [← hw90]
              have R9 : Blk w90 (w.heap.size + 1 + 1 + 1) 39 #[.int .i64 200, .slice A2 nf k2, .slice none 0 0, .int .i64 0] := by rw [hw90]; exact ((((Rb).set_ 0 _).set_ 1 _).set_ 2 _).set_ 3 _
              have hB90 : Below w.heap.size w w90 := by rw [hw90]; exact below_set (below_set (below_set (below_set (hB20) (by omega) _) (by omega) _) (by omega) _) (by omega) _
              clear hw90
              have cR9 := R9.cell
              refine bodyPost_ret (v := .agg #[.int .i64 200, .slice A2 nf k2, .slice none 0 0, .int .i64 0]) (by simp [results, Tryz.results8, go_sem, cR9]) rfl ?_
              exact ⟨200, 0, A2, nf, k2, none, 0, [], rfl, HW.out _ _ ⟨rfl, by rw [if_pos (.inr rfl)]⟩, OwnL.nil _ _ _, (fun _ p hp => by cases hp), by show 0 ≤ 1000; omega, hB90⟩
            · have g0 : (ln == 0) = false := by rw [beq_eq_false_iff_ne]; exact hl0
              by_cases hl1 : ln = -1
              · subst hl1
                go_upto_region 13 with fail
                obtain ⟨w21, hw21⟩ : ∃ W : World, W = w20.alloc (.cells #[.int .i64 0, .int .i64 (-1)] 67) := ⟨_, rfl⟩
                rw [← hw21]
                have Sb : Blk w21 w20.heap.size 67 #[.int .i64 0, .int .i64 (-1)] := by rw [hw21]; exact Blk.new _ _ _
                replace Qb := Qb.alloc (.cells #[.int .i64 0, .int .i64 (-1)] 67)
                replace Mb := Mb.alloc (.cells #[.int .i64 0, .int .i64 (-1)] 67)
                replace Rb := Rb.alloc (.cells #[.int .i64 0, .int .i64 (-1)] 67)
                replace Ab := Ab.alloc (.cells #[.int .i64 0, .int .i64 (-1)] 67)
                rw [← hw21] at Qb Mb Rb Ab
                have hB21 : Below w.heap.size w w21 := by rw [hw21]; exact hB20.alloc hB20.size _
                skip
                obtain ⟨sb, hsb⟩ : ∃ n, n = w20.heap.size := ⟨_, rfl⟩
                rw [← hsb] at Sb hla ⊢
                clear hw21 hsb hB20 cQb cMb cRb cAb fRb lRb
                have cQb := Qb.cell
                have cMb := Mb.cell
                have cRb := Rb.cell
                have cAb := Ab.cell
                have cSb := Sb.cell
                have fSb := Sb.frozen
                have lSb := Sb.lt
                go_upto_region 15 with fail
                obtain ⟨w22, hw22⟩ : ∃ W : World, W = w21.setCell ⟨sb, 1, none⟩ (.int .i64 4611686018427387904) := ⟨_, rfl⟩
                rw [← hw22]
                have Sb2 : Blk w22 sb 67 #[.int .i64 0, .int .i64 4611686018427387904] := by rw [hw22]; exact Sb.set_ 1 _
                replace Rb := Rb.far (p := ⟨sb, 1, none⟩) (by show _ ≠ sb; omega) (.int .i64 4611686018427387904)
                replace Ab := Ab.far (p := ⟨sb, 1, none⟩) (by show _ ≠ sb; omega) (.int .i64 4611686018427387904)
                rw [← hw22] at Rb Ab
                have hB22 : Below w.heap.size w w22 := by rw [hw22]; exact below_set hB21 (by omega) _
                clear hw22 hB21 cQb cMb cRb cAb cSb fSb lSb Qb Mb Sb
                have cRb := Rb.cell
                have cAb := Ab.cell
                have cSb2 := Sb2.cell
                have fAb := Ab.frozen
                have lAb := Ab.lt
                go_upto_region 16 with fail
                obtain ⟨w24, hw24⟩ : ∃ W : World, W = (w22.setCell ⟨ab, 2, none⟩ (.slice (some ⟨w22.heap.size, 0, none⟩) 1 1)).alloc (.cells #[.string ⟨#[]⟩, .int .i64 0, .int .i64 4611686018427387904] 75) := ⟨_, rfl⟩
                rw [← hw24]
                obtain ⟨pb, hpb⟩ : ∃ n, n = w22.heap.size := ⟨_, rfl⟩
                have lRb := Rb.lt
                rw [← hpb] at hw24 lAb lRb ⊢
                have Ab4 : Blk w24 ab 39 #[.int .i64 200, .slice A2 nf k2, .slice (some ⟨pb, 0, none⟩) 1 1, .int .i64 (-1)] := by rw [hw24]; exact (Ab.set_ 2 _).alloc _
                have Pb : Blk w24 pb 75 #[.string ⟨#[]⟩, .int .i64 0, .int .i64 4611686018427387904] := by rw [hw24]; exact Blk.new' (by rw [hpb]; simp [World.setCell])
                have Rb4 := (Rb.far (p := ⟨ab, 2, none⟩) (by show _ ≠ ab; omega) (.slice (some ⟨pb, 0, none⟩) 1 1)).alloc (.cells #[.string ⟨#[]⟩, .int .i64 0, .int .i64 4611686018427387904] 75)
                rw [← hw24] at Rb4
                have hB24 : Below w.heap.size w w24 := by rw [hw24]; exact (below_set hB22 (by omega) _).alloc (by show _ ≤ (World.setCell _ _ _).heap.size; simp [World.setCell]; have := hB22.size; omega) _
                have HP := hide (OwnL.one_ (L := LP) (x := (⟨#[]⟩, 0, 4611686018427387904)) (B := w.heap.size + 1 + 1 + 1 + 1) Pb rfl (by omega))
                have hpo : (Value.slice (some ⟨pb, 0, none⟩) 1 1).ownBlock ≠ some (w.heap.size + 1 + 1 + 1) := fun e => by have h9 : w.heap.size + 1 + 1 + 1 + 1 ≤ w.heap.size + 1 + 1 + 1 := (HP.out.lt _ e).1; omega
                clear hw24 hpb Ab Rb hB22 cAb cRb
                have Rb := Rb4
                have cAb := Ab4.cell
                have cRb := Rb.cell
                have fRb := Rb.frozen
                have lRb := Rb.lt
                go_wp2_with fail
                obtain ⟨w90, hw90⟩ : ∃ W : World, W = ((((w24).setCell ⟨w.heap.size + 1 + 1 + 1, 0, none⟩ (.int .i64 200)).setCell ⟨w.heap.size + 1 + 1 + 1, 1, none⟩ (.slice A2 nf k2)).setCell ⟨w.heap.size + 1 + 1 + 1, 2, none⟩ (.slice (some ⟨pb, 0, none⟩) 1 1)).setCell ⟨w.heap.size + 1 + 1 + 1, 3, none⟩ (.int .i64 (-1)) := ⟨_, rfl⟩
                rw [← hw90]
                have R9 : Blk w90 (w.heap.size + 1 + 1 + 1) 39 #[.int .i64 200, .slice A2 nf k2, .slice (some ⟨pb, 0, none⟩) 1 1, .int .i64 (-1)] := by rw [hw90]; exact ((((Rb).set_ 0 _).set_ 1 _).set_ 2 _).set_ 3 _
                have hB90 : Below w.heap.size w w90 := by rw [hw90]; exact below_set (below_set (below_set (below_set (hB24) (by omega) _) (by omega) _) (by omega) _) (by omega) _
                have HP9 := hide (show OwnL LP w.heap.size w90 (.slice (some ⟨pb, 0, none⟩) 1 1) _ by rw [hw90]; exact (((((HP.out).far (p := ⟨w.heap.size + 1 + 1 + 1, 0, none⟩) hpo _).far (p := ⟨w.heap.size + 1 + 1 + 1, 1, none⟩) hpo _).far (p := ⟨w.heap.size + 1 + 1 + 1, 2, none⟩) hpo _).far (p := ⟨w.heap.size + 1 + 1 + 1, 3, none⟩) hpo _).mono (by omega))
                clear hw90
                have cR9 := R9.cell
                refine bodyPost_ret (v := .agg #[.int .i64 200, .slice A2 nf k2, .slice (some ⟨pb, 0, none⟩) 1 1, .int .i64 (-1)]) (by simp [results, Tryz.results8, go_sem, cR9]) rfl ?_
                exact ⟨200, (-1), A2, nf, k2, some ⟨pb, 0, none⟩, 1, [(⟨#[]⟩, 0, 4611686018427387904)], rfl, HW.out _ _ ⟨rfl, by rw [if_neg (fun h => h.elim (fun h => by cases h) (fun h => by first | exact hl0 h | (revert h; decide))), if_pos rfl]⟩, HP9.out, (fun h => by first | exact h.elim | exact absurd rfl h), by show 1 ≤ 1000; omega, hB90⟩
              · have g1 : (ln == -1) = false := by rw [beq_eq_false_iff_ne]; exact hl1
                go_upto_region 13 with fail
                obtain ⟨w21, hw21⟩ : ∃ W : World, W = w20.alloc (.cells #[.int .i64 0, .int .i64 ln] 67) := ⟨_, rfl⟩
                rw [← hw21]
                have Sb : Blk w21 w20.heap.size 67 #[.int .i64 0, .int .i64 ln] := by rw [hw21]; exact Blk.new _ _ _
                replace Qb := Qb.alloc (.cells #[.int .i64 0, .int .i64 ln] 67)
                replace Mb := Mb.alloc (.cells #[.int .i64 0, .int .i64 ln] 67)
                replace Rb := Rb.alloc (.cells #[.int .i64 0, .int .i64 ln] 67)
                replace Ab := Ab.alloc (.cells #[.int .i64 0, .int .i64 ln] 67)
                rw [← hw21] at Qb Mb Rb Ab
                have hB21 : Below w.heap.size w w21 := by rw [hw21]; exact hB20.alloc hB20.size _
                skip
                obtain ⟨sb, hsb⟩ : ∃ n, n = w20.heap.size := ⟨_, rfl⟩
                rw [← hsb] at Sb hla ⊢
                clear hw21 hsb hB20 cQb cMb cRb cAb fRb lRb
                have cQb := Qb.cell
                have cMb := Mb.cell
                have cRb := Rb.cell
                have cAb := Ab.cell
                have cSb := Sb.cell
                have fAb := Ab.frozen
                have lAb := Ab.lt
                go_upto_region 16 with fail
                obtain ⟨w24, hw24⟩ : ∃ W : World, W = (w21.setCell ⟨ab, 2, none⟩ (.slice (some ⟨w21.heap.size, 0, none⟩) 1 1)).alloc (.cells #[.string ⟨#[]⟩, .int .i64 0, .int .i64 ln] 75) := ⟨_, rfl⟩
                rw [← hw24]
                obtain ⟨pb, hpb⟩ : ∃ n, n = w21.heap.size := ⟨_, rfl⟩
                have lRb := Rb.lt
                rw [← hpb] at hw24 lAb lRb ⊢
                have Ab4 : Blk w24 ab 39 #[.int .i64 200, .slice A2 nf k2, .slice (some ⟨pb, 0, none⟩) 1 1, .int .i64 ln] := by rw [hw24]; exact (Ab.set_ 2 _).alloc _
                have Pb : Blk w24 pb 75 #[.string ⟨#[]⟩, .int .i64 0, .int .i64 ln] := by rw [hw24]; exact Blk.new' (by rw [hpb]; simp [World.setCell])
                have Rb4 := (Rb.far (p := ⟨ab, 2, none⟩) (by show _ ≠ ab; omega) (.slice (some ⟨pb, 0, none⟩) 1 1)).alloc (.cells #[.string ⟨#[]⟩, .int .i64 0, .int .i64 ln] 75)
                rw [← hw24] at Rb4
                have hB24 : Below w.heap.size w w24 := by rw [hw24]; exact (below_set hB21 (by omega) _).alloc (by show _ ≤ (World.setCell _ _ _).heap.size; simp [World.setCell]; have := hB21.size; omega) _
                have HP := hide (OwnL.one_ (L := LP) (x := (⟨#[]⟩, 0, ln)) (B := w.heap.size + 1 + 1 + 1 + 1) Pb rfl (by omega))
                have hpo : (Value.slice (some ⟨pb, 0, none⟩) 1 1).ownBlock ≠ some (w.heap.size + 1 + 1 + 1) := fun e => by have h9 : w.heap.size + 1 + 1 + 1 + 1 ≤ w.heap.size + 1 + 1 + 1 := (HP.out.lt _ e).1; omega
                clear hw24 hpb Ab Rb hB21 cAb cRb
                have Rb := Rb4
                have cAb := Ab4.cell
                have cRb := Rb.cell
                have fRb := Rb.frozen
                have lRb := Rb.lt
                go_wp2_with fail
                obtain ⟨w90, hw90⟩ : ∃ W : World, W = ((((w24).setCell ⟨w.heap.size + 1 + 1 + 1, 0, none⟩ (.int .i64 200)).setCell ⟨w.heap.size + 1 + 1 + 1, 1, none⟩ (.slice A2 nf k2)).setCell ⟨w.heap.size + 1 + 1 + 1, 2, none⟩ (.slice (some ⟨pb, 0, none⟩) 1 1)).setCell ⟨w.heap.size + 1 + 1 + 1, 3, none⟩ (.int .i64 ln) := ⟨_, rfl⟩
                rw [← hw90]
                have R9 : Blk w90 (w.heap.size + 1 + 1 + 1) 39 #[.int .i64 200, .slice A2 nf k2, .slice (some ⟨pb, 0, none⟩) 1 1, .int .i64 ln] := by rw [hw90]; exact ((((Rb).set_ 0 _).set_ 1 _).set_ 2 _).set_ 3 _
                have hB90 : Below w.heap.size w w90 := by rw [hw90]; exact below_set (below_set (below_set (below_set (hB24) (by omega) _) (by omega) _) (by omega) _) (by omega) _
                have HP9 := hide (show OwnL LP w.heap.size w90 (.slice (some ⟨pb, 0, none⟩) 1 1) _ by rw [hw90]; exact (((((HP.out).far (p := ⟨w.heap.size + 1 + 1 + 1, 0, none⟩) hpo _).far (p := ⟨w.heap.size + 1 + 1 + 1, 1, none⟩) hpo _).far (p := ⟨w.heap.size + 1 + 1 + 1, 2, none⟩) hpo _).far (p := ⟨w.heap.size + 1 + 1 + 1, 3, none⟩) hpo _).mono (by omega))
                clear hw90
                have cR9 := R9.cell
                refine bodyPost_ret (v := .agg #[.int .i64 200, .slice A2 nf k2, .slice (some ⟨pb, 0, none⟩) 1 1, .int .i64 ln]) (by simp [results, Tryz.results8, go_sem, cR9]) rfl ?_
                exact ⟨200, ln, A2, nf, k2, some ⟨pb, 0, none⟩, 1, [(⟨#[]⟩, 0, ln)], rfl, HW.out _ _ ⟨rfl, by rw [if_neg (fun h => h.elim (fun h => by cases h) (fun h => by first | exact hl0 h | (revert h; decide))), if_neg hl1]⟩, HP9.out, (fun _ => partIn_one ln (by omega) (by omega)), by show 1 ≤ 1000; omega, hB90⟩
          · go_upto_region 10 with fail
            obtain ⟨w20, hw20⟩ : ∃ W : World, W = w2.alloc (.cells #[.int .i64 200, .slice A2 nf k2, .slice none 0 0, .int .i64 ln] 39) := ⟨_, rfl⟩
            rw [← hw20]
            have Ab : Blk w20 w2.heap.size 39 #[.int .i64 200, .slice A2 nf k2, .slice none 0 0, .int .i64 ln] := by rw [hw20]; exact Blk.new _ _ _
            have hl3 := Rb.lt
            have hla := Ab.lt
            replace Qb := Qb.alloc (.cells #[.int .i64 200, .slice A2 nf k2, .slice none 0 0, .int .i64 ln] 39)
            replace Mb := Mb.alloc (.cells #[.int .i64 200, .slice A2 nf k2, .slice none 0 0, .int .i64 ln] 39)
            replace Rb := Rb.alloc (.cells #[.int .i64 200, .slice A2 nf k2, .slice none 0 0, .int .i64 ln] 39)
            rw [← hw20] at Qb Mb Rb
            have hB20 : Below w.heap.size w w20 := by rw [hw20]; exact hB2.alloc hB2.size _
            obtain ⟨ab, hab⟩ : ∃ n, n = w2.heap.size := ⟨_, rfl⟩
            rw [← hab] at Ab hl3 hla ⊢
            clear hw20 hab hB2 cQb cMb cRb cCb Cb
            have cQb := Qb.cell
            have cMb := Mb.cell
            have cRb := Rb.cell
            have cAb := Ab.cell
            have fRb := Rb.frozen
            have lRb := Rb.lt
            go_wp2_with fail
            obtain ⟨w90, hw90⟩ : ∃ W : World, W = ((((w20).setCell ⟨w.heap.size + 1 + 1 + 1, 0, none⟩ (.int .i64 200)).setCell ⟨w.heap.size + 1 + 1 + 1, 1, none⟩ (.slice A2 nf k2)).setCell ⟨w.heap.size + 1 + 1 + 1, 2, none⟩ (.slice none 0 0)).setCell ⟨w.heap.size + 1 + 1 + 1, 3, none⟩ (.int .i64 ln) := ⟨_, rfl⟩
            rw [← hw90]
            have R9 : Blk w90 (w.heap.size + 1 + 1 + 1) 39 #[.int .i64 200, .slice A2 nf k2, .slice none 0 0, .int .i64 ln] := by rw [hw90]; exact ((((Rb).set_ 0 _).set_ 1 _).set_ 2 _).set_ 3 _
            have hB90 : Below w.heap.size w w90 := by rw [hw90]; exact below_set (below_set (below_set (below_set (hB20) (by omega) _) (by omega) _) (by omega) _) (by omega) _
            clear hw90
            have cR9 := R9.cell
            refine bodyPost_ret (v := .agg #[.int .i64 200, .slice A2 nf k2, .slice none 0 0, .int .i64 ln]) (by simp [results, Tryz.results8, go_sem, cR9]) rfl ?_
            exact ⟨200, ln, A2, nf, k2, none, 0, [], rfl, HW.out _ _ ⟨rfl, by rw [if_pos (.inl rfl)]⟩, OwnL.nil _ _ _, (fun _ p hp => by cases hp), by show 0 ≤ 1000; omega, hB90⟩
        · have d1 : (oc == 1) = false := by rw [beq_eq_false_iff_ne]; exact ho1
          go_upto_region 10 with fail
          obtain ⟨w20, hw20⟩ : ∃ W : World, W = w2.alloc (.cells #[.int .i64 200, .slice A2 nf k2, .slice none 0 0, .int .i64 ln] 39) := ⟨_, rfl⟩
          rw [← hw20]
          have Ab : Blk w20 w2.heap.size 39 #[.int .i64 200, .slice A2 nf k2, .slice none 0 0, .int .i64 ln] := by rw [hw20]; exact Blk.new _ _ _
          have hl3 := Rb.lt
          have hla := Ab.lt
          replace Qb := Qb.alloc (.cells #[.int .i64 200, .slice A2 nf k2, .slice none 0 0, .int .i64 ln] 39)
          replace Mb := Mb.alloc (.cells #[.int .i64 200, .slice A2 nf k2, .slice none 0 0, .int .i64 ln] 39)
          replace Rb := Rb.alloc (.cells #[.int .i64 200, .slice A2 nf k2, .slice none 0 0, .int .i64 ln] 39)
          rw [← hw20] at Qb Mb Rb
          have hB20 : Below w.heap.size w w20 := by rw [hw20]; exact hB2.alloc hB2.size _
          obtain ⟨ab, hab⟩ : ∃ n, n = w2.heap.size := ⟨_, rfl⟩
          rw [← hab] at Ab hl3 hla ⊢
          clear hw20 hab hB2 cQb cMb cRb cCb Cb
          have cQb := Qb.cell
          have cMb := Mb.cell
          have cRb := Rb.cell
          have cAb := Ab.cell
          have fRb := Rb.frozen
          have lRb := Rb.lt
          cases hd
          · by_cases hl0 : ln = 0
            · subst hl0
              go_wp2_with fail
              obtain ⟨w90, hw90⟩ : ∃ W : World, W = ((((w20).setCell ⟨w.heap.size + 1 + 1 + 1, 0, none⟩ (.int .i64 200)).setCell ⟨w.heap.size + 1 + 1 + 1, 1, none⟩ (.slice A2 nf k2)).setCell ⟨w.heap.size + 1 + 1 + 1, 2, none⟩ (.slice none 0 0)).setCell ⟨w.heap.size + 1 + 1 + 1, 3, none⟩ (.int .i64 0) := ⟨_, rfl⟩
              rw [← hw90]
              have R9 : Blk w90 (w.heap.size + 1 + 1 + 1) 39 #[.int .i64 200, .slice A2 nf k2, .slice none 0 0, .int .i64 0] := by rw [hw90]; exact ((((Rb).set_ 0 _).set_ 1 _).set_ 2 _).set_ 3 _
              have hB90 : Below w.heap.size w w90 := by rw [hw90]; exact below_set (below_set (below_set (below_set (hB20) (by omega) _) (by omega) _) (by omega) _) (by omega) _
              clear hw90
              have cR9 := R9.cell
              refine bodyPost_ret (v := .agg #[.int .i64 200, .slice A2 nf k2, .slice none 0 0, .int .i64 0]) (by simp [results, Tryz.results8, go_sem, cR9]) rfl ?_
              exact ⟨200, 0, A2, nf, k2, none, 0, [], rfl, HW.out _ _ ⟨rfl, by rw [if_pos (.inr rfl)]⟩, OwnL.nil _ _ _, (fun _ p hp => by cases hp), by show 0 ≤ 1000; omega, hB90⟩
            · have g0 : (ln == 0) = false := by rw [beq_eq_false_iff_ne]; exact hl0
              by_cases hl1 : ln = -1
              · subst hl1
                go_upto_region 13 with fail
                obtain ⟨w21, hw21⟩ : ∃ W : World, W = w20.alloc (.cells #[.int .i64 0, .int .i64 (-1)] 67) := ⟨_, rfl⟩
                rw [← hw21]
                have Sb : Blk w21 w20.heap.size 67 #[.int .i64 0, .int .i64 (-1)] := by rw [hw21]; exact Blk.new _ _ _
                replace Qb := Qb.alloc (.cells #[.int .i64 0, .int .i64 (-1)] 67)
                replace Mb := Mb.alloc (.cells #[.int .i64 0, .int .i64 (-1)] 67)
                replace Rb := Rb.alloc (.cells #[.int .i64 0, .int .i64 (-1)] 67)
                replace Ab := Ab.alloc (.cells #[.int .i64 0, .int .i64 (-1)] 67)
                rw [← hw21] at Qb Mb Rb Ab
                have hB21 : Below w.heap.size w w21 := by rw [hw21]; exact hB20.alloc hB20.size _
                skip
                obtain ⟨sb, hsb⟩ : ∃ n, n = w20.heap.size := ⟨_, rfl⟩
                rw [← hsb] at Sb hla ⊢
                clear hw21 hsb hB20 cQb cMb cRb cAb fRb lRb
                have cQb := Qb.cell
                have cMb := Mb.cell
                have cRb := Rb.cell
                have cAb := Ab.cell
                have cSb := Sb.cell
                have fSb := Sb.frozen
                have lSb := Sb.lt
                go_upto_region 15 with fail
                obtain ⟨w22, hw22⟩ : ∃ W : World, W = w21.setCell ⟨sb, 1, none⟩ (.int .i64 4611686018427387904) := ⟨_, rfl⟩
                rw [← hw22]
                have Sb2 : Blk w22 sb 67 #[.int .i64 0, .int .i64 4611686018427387904] := by rw [hw22]; exact Sb.set_ 1 _
                replace Rb := Rb.far (p := ⟨sb, 1, none⟩) (by show _ ≠ sb; omega) (.int .i64 4611686018427387904)
                replace Ab := Ab.far (p := ⟨sb, 1, none⟩) (by show _ ≠ sb; omega) (.int .i64 4611686018427387904)
                rw [← hw22] at Rb Ab
                have hB22 : Below w.heap.size w w22 := by rw [hw22]; exact below_set hB21 (by omega) _
                clear hw22 hB21 cQb cMb cRb cAb cSb fSb lSb Qb Mb Sb
                have cRb := Rb.cell
                have cAb := Ab.cell
                have cSb2 := Sb2.cell
                have fAb := Ab.frozen
                have lAb := Ab.lt
                go_upto_region 16 with fail
                obtain ⟨w24, hw24⟩ : ∃ W : World, W = (w22.setCell ⟨ab, 2, none⟩ (.slice (some ⟨w22.heap.size, 0, none⟩) 1 1)).alloc (.cells #[.string ⟨#[]⟩, .int .i64 0, .int .i64 4611686018427387904] 75) := ⟨_, rfl⟩
                rw [← hw24]
                obtain ⟨pb, hpb⟩ : ∃ n, n = w22.heap.size := ⟨_, rfl⟩
                have lRb := Rb.lt
                rw [← hpb] at hw24 lAb lRb ⊢
                have Ab4 : Blk w24 ab 39 #[.int .i64 200, .slice A2 nf k2, .slice (some ⟨pb, 0, none⟩) 1 1, .int .i64 (-1)] := by rw [hw24]; exact (Ab.set_ 2 _).alloc _
                have Pb : Blk w24 pb 75 #[.string ⟨#[]⟩, .int .i64 0, .int .i64 4611686018427387904] := by rw [hw24]; exact Blk.new' (by rw [hpb]; simp [World.setCell])
                have Rb4 := (Rb.far (p := ⟨ab, 2, none⟩) (by show _ ≠ ab; omega) (.slice (some ⟨pb, 0, none⟩) 1 1)).alloc (.cells #[.string ⟨#[]⟩, .int .i64 0, .int .i64 4611686018427387904] 75)
                rw [← hw24] at Rb4
                have hB24 : Below w.heap.size w w24 := by rw [hw24]; exact (below_set hB22 (by omega) _).alloc (by show _ ≤ (World.setCell _ _ _).heap.size; simp [World.setCell]; have := hB22.size; omega) _
                have HP := hide (OwnL.one_ (L := LP) (x := (⟨#[]⟩, 0, 4611686018427387904)) (B := w.heap.size + 1 + 1 + 1 + 1) Pb rfl (by omega))
                have hpo : (Value.slice (some ⟨pb, 0, none⟩) 1 1).ownBlock ≠ some (w.heap.size + 1 + 1 + 1) := fun e => by have h9 : w.heap.size + 1 + 1 + 1 + 1 ≤ w.heap.size + 1 + 1 + 1 := (HP.out.lt _ e).1; omega
                clear hw24 hpb Ab Rb hB22 cAb cRb
                have Rb := Rb4
                have cAb := Ab4.cell
                have cRb := Rb.cell
                have fRb := Rb.frozen
                have lRb := Rb.lt
                go_wp2_with fail
                obtain ⟨w90, hw90⟩ : ∃ W : World, W = ((((w24).setCell ⟨w.heap.size + 1 + 1 + 1, 0, none⟩ (.int .i64 200)).setCell ⟨w.heap.size + 1 + 1 + 1, 1, none⟩ (.slice A2 nf k2)).setCell ⟨w.heap.size + 1 + 1 + 1, 2, none⟩ (.slice (some ⟨pb, 0, none⟩) 1 1)).setCell ⟨w.heap.size + 1 + 1 + 1, 3, none⟩ (.int .i64 (-1)) := ⟨_, rfl⟩
                rw [← hw90]
                have R9 : Blk w90 (w.heap.size + 1 + 1 + 1) 39 #[.int .i64 200, .slice A2 nf k2, .slice (some ⟨pb, 0, none⟩) 1 1, .int .i64 (-1)] := by rw [hw90]; exact ((((Rb).set_ 0 _).set_ 1 _).set_ 2 _).set_ 3 _
                have hB90 : Below w.heap.size w w90 := by rw [hw90]; exact below_set (below_set (below_set (below_set (hB24) (by omega) _) (by omega) _) (by omega) _) (by omega) _
                have HP9 := hide (show OwnL LP w.heap.size w90 (.slice (some ⟨pb, 0, none⟩) 1 1) _ by rw [hw90]; exact (((((HP.out).far (p := ⟨w.heap.size + 1 + 1 + 1, 0, none⟩) hpo _).far (p := ⟨w.heap.size + 1 + 1 + 1, 1, none⟩) hpo _).far (p := ⟨w.heap.size + 1 + 1 + 1, 2, none⟩) hpo _).far (p := ⟨w.heap.size + 1 + 1 + 1, 3, none⟩) hpo _).mono (by omega))
                clear hw90
                have cR9 := R9.cell
                refine bodyPost_ret (v := .agg #[.int .i64 200, .slice A2 nf k2, .slice (some ⟨pb, 0, none⟩) 1 1, .int .i64 (-1)]) (by simp [results, Tryz.results8, go_sem, cR9]) rfl ?_
                exact ⟨200, (-1), A2, nf, k2, some ⟨pb, 0, none⟩, 1, [(⟨#[]⟩, 0, 4611686018427387904)], rfl, HW.out _ _ ⟨rfl, by rw [if_neg (fun h => h.elim (fun h => by cases h) (fun h => by first | exact hl0 h | (revert h; decide))), if_pos rfl]⟩, HP9.out, (fun h => by first | exact h.elim | exact absurd rfl h), by show 1 ≤ 1000; omega, hB90⟩
              · have g1 : (ln == -1) = false := by rw [beq_eq_false_iff_ne]; exact hl1
                go_upto_region 13 with fail
                obtain ⟨w21, hw21⟩ : ∃ W : World, W = w20.alloc (.cells #[.int .i64 0, .int .i64 ln] 67) := ⟨_, rfl⟩
                rw [← hw21]
                have Sb : Blk w21 w20.heap.size 67 #[.int .i64 0, .int .i64 ln] := by rw [hw21]; exact Blk.new _ _ _
                replace Qb := Qb.alloc (.cells #[.int .i64 0, .int .i64 ln] 67)
                replace Mb := Mb.alloc (.cells #[.int .i64 0, .int .i64 ln] 67)
                replace Rb := Rb.alloc (.cells #[.int .i64 0, .int .i64 ln] 67)
                replace Ab := Ab.alloc (.cells #[.int .i64 0, .int .i64 ln] 67)
                rw [← hw21] at Qb Mb Rb Ab
                have hB21 : Below w.heap.size w w21 := by rw [hw21]; exact hB20.alloc hB20.size _
                skip
                obtain ⟨sb, hsb⟩ : ∃ n, n = w20.heap.size := ⟨_, rfl⟩
                rw [← hsb] at Sb hla ⊢
                clear hw21 hsb hB20 cQb cMb cRb cAb fRb lRb
                have cQb := Qb.cell
                have cMb := Mb.cell
                have cRb := Rb.cell
                have cAb := Ab.cell
                have cSb := Sb.cell
                have fAb := Ab.frozen
                have lAb := Ab.lt
                go_upto_region 16 with fail
                obtain ⟨w24, hw24⟩ : ∃ W : World, W = (w21.setCell ⟨ab, 2, none⟩ (.slice (some ⟨w21.heap.size, 0, none⟩) 1 1)).alloc (.cells #[.string ⟨#[]⟩, .int .i64 0, .int .i64 ln] 75) := ⟨_, rfl⟩
                rw [← hw24]
                obtain ⟨pb, hpb⟩ : ∃ n, n = w21.heap.size := ⟨_, rfl⟩
                have lRb := Rb.lt
                rw [← hpb] at hw24 lAb lRb ⊢
                have Ab4 : Blk w24 ab 39 #[.int .i64 200, .slice A2 nf k2, .slice (some ⟨pb, 0, none⟩) 1 1, .int .i64 ln] := by rw [hw24]; exact (Ab.set_ 2 _).alloc _
                have Pb : Blk w24 pb 75 #[.string ⟨#[]⟩, .int .i64 0, .int .i64 ln] := by rw [hw24]; exact Blk.new' (by rw [hpb]; simp [World.setCell])
                have Rb4 := (Rb.far (p := ⟨ab, 2, none⟩) (by show _ ≠ ab; omega) (.slice (some ⟨pb, 0, none⟩) 1 1)).alloc (.cells #[.string ⟨#[]⟩, .int .i64 0, .int .i64 ln] 75)
                rw [← hw24] at Rb4
                have hB24 : Below w.heap.size w w24 := by rw [hw24]; exact (below_set hB21 (by omega) _).alloc (by show _ ≤ (World.setCell _ _ _).heap.size; simp [World.setCell]; have := hB21.size; omega) _
                have HP := hide (OwnL.one_ (L := LP) (x := (⟨#[]⟩, 0, ln)) (B := w.heap.size + 1 + 1 + 1 + 1) Pb rfl (by omega))
                have hpo : (Value.slice (some ⟨pb, 0, none⟩) 1 1).ownBlock ≠ some (w.heap.size + 1 + 1 + 1) := fun e => by have h9 : w.heap.size + 1 + 1 + 1 + 1 ≤ w.heap.size + 1 + 1 + 1 := (HP.out.lt _ e).1; omega
                clear hw24 hpb Ab Rb hB21 cAb cRb
                have Rb := Rb4
                have cAb := Ab4.cell
                have cRb := Rb.cell
                have fRb := Rb.frozen
                have lRb := Rb.lt
                go_wp2_with fail
                obtain ⟨w90, hw90⟩ : ∃ W : World, W = ((((w24).setCell ⟨w.heap.size + 1 + 1 + 1, 0, none⟩ (.int .i64 200)).setCell ⟨w.heap.size + 1 + 1 + 1, 1, none⟩ (.slice A2 nf k2)).setCell ⟨w.heap.size + 1 + 1 + 1, 2, none⟩ (.slice (some ⟨pb, 0, none⟩) 1 1)).setCell ⟨w.heap.size + 1 + 1 + 1, 3, none⟩ (.int .i64 ln) := ⟨_, rfl⟩
                rw [← hw90]
                have R9 : Blk w90 (w.heap.size + 1 + 1 + 1) 39 #[.int .i64 200, .slice A2 nf k2, .slice (some ⟨pb, 0, none⟩) 1 1, .int .i64 ln] := by rw [hw90]; exact ((((Rb).set_ 0 _).set_ 1 _).set_ 2 _).set_ 3 _
                have hB90 : Below w.heap.size w w90 := by rw [hw90]; exact below_set (below_set (below_set (below_set (hB24) (by omega) _) (by omega) _) (by omega) _) (by omega) _
                have HP9 := hide (show OwnL LP w.heap.size w90 (.slice (some ⟨pb, 0, none⟩) 1 1) _ by rw [hw90]; exact (((((HP.out).far (p := ⟨w.heap.size + 1 + 1 + 1, 0, none⟩) hpo _).far (p := ⟨w.heap.size + 1 + 1 + 1, 1, none⟩) hpo _).far (p := ⟨w.heap.size + 1 + 1 + 1, 2, none⟩) hpo _).far (p := ⟨w.heap.size + 1 + 1 + 1, 3, none⟩) hpo _).mono (by omega))
                clear hw90
                have cR9 := R9.cell
                refine bodyPost_ret (v := .agg #[.int .i64 200, .slice A2 nf k2, .slice (some ⟨pb, 0, none⟩) 1 1, .int .i64 ln]) (by simp [results, Tryz.results8, go_sem, cR9]) rfl ?_
                exact ⟨200, ln, A2, nf, k2, some ⟨pb, 0, none⟩, 1, [(⟨#[]⟩, 0, ln)], rfl, HW.out _ _ ⟨rfl, by rw [if_neg (fun h => h.elim (fun h => by cases h) (fun h => by first | exact hl0 h | (revert h; decide))), if_neg hl1]⟩, HP9.out, (fun _ => partIn_one ln (by omega) (by omega)), by show 1 ≤ 1000; omega, hB90⟩
          · go_wp2_with fail
            obtain ⟨w90, hw90⟩ : ∃ W : World, W = ((((w20).setCell ⟨w.heap.size + 1 + 1 + 1, 0, none⟩ (.int .i64 200)).setCell ⟨w.heap.size + 1 + 1 + 1, 1, none⟩ (.slice A2 nf k2)).setCell ⟨w.heap.size + 1 + 1 + 1, 2, none⟩ (.slice none 0 0)).setCell ⟨w.heap.size + 1 + 1 + 1, 3, none⟩ (.int .i64 ln) := ⟨_, rfl⟩
            rw [← hw90]
            have R9 : Blk w90 (w.heap.size + 1 + 1 + 1) 39 #[.int .i64 200, .slice A2 nf k2, .slice none 0 0, .int .i64 ln] := by rw [hw90]; exact ((((Rb).set_ 0 _).set_ 1 _).set_ 2 _).set_ 3 _
            have hB90 : Below w.heap.size w w90 := by rw [hw90]; exact below_set (below_set (below_set (below_set (hB20) (by omega) _) (by omega) _) (by omega) _) (by omega) _
            clear hw90
            have cR9 := R9.cell
            refine bodyPost_ret (v := .agg #[.int .i64 200, .slice A2 nf k2, .slice none 0 0, .int .i64 ln]) (by simp [results, Tryz.results8, go_sem, cR9]) rfl ?_
            exact ⟨200, ln, A2, nf, k2, none, 0, [], rfl, HW.out _ _ ⟨rfl, by rw [if_pos (.inl rfl)]⟩, OwnL.nil _ _ _, (fun _ p hp => by cases hp), by show 0 ≤ 1000; omega, hB90⟩

end Go.Proofs.YtfcbmajogmojbaaGreatDoor
