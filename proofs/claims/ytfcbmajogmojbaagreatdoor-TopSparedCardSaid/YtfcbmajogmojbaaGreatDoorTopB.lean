/-
  Who is told that nothing changed: the walk.
-/
import Derived.Test.YtfcbmajogmojbaaGreatDoorTopA
import Derived.Test.YtfcbmajogmojbaaGreatDoorShpB
import Derived.Test.YtfcbmajogmojbaaGreatDoorGrC
import Derived.Test.YtfcbmajogmojbaaGreatDoorMetaA
import Derived.Test.YtfcbmajogmojbaaGreatDoorRngI
import Derived.Test.YtfcbmajogmojbaaGreatDoorRegI
import Derived.Deep.CutBlock
import Derived.Deep.DeepCutAuto
namespace Go.Proofs.YtfcbmajogmojbaaGreatDoor
open Go.RowKit Go.Proofs
set_option linter.unusedVariables false
set_option linter.unusedSimpArgs false

theorem spared_cases {hd : Bool} {sl : List Sp} {ln hv oc sta siz : Int} {ps : List P3} (h : ShpQ hd sl ln hv oc sta siz ps) : (sta = 304 ∧ oc = 3 ∧ siz = 0 ∧ ps = []) ∨ (sta = 412 ∧ oc = 4 ∧ siz = 0 ∧ ps = []) ∨ (sta ≠ 304 ∧ sta ≠ 412) := by
  rcases h with ⟨h1, h2, h3, h4⟩ | ⟨h1, h2, h3, h4⟩ | ⟨-, ⟨-, -, -, -, h⟩ | ⟨-, h⟩⟩
  · exact .inl ⟨h2, h1, h3, h4⟩
  · exact .inr (.inl ⟨h2, h1, h3, h4⟩)
  · rcases h with ⟨-, h, -⟩ | ⟨-, h, -⟩ <;> exact .inr (.inr ⟨by omega, by omega⟩)
  · have h2 := h.1
    exact .inr (.inr ⟨by omega, by omega⟩)
/-- A text was named. -/
def eqT (t : TagL) (mt : ByteArray) : Bool := (⟨t.1.toArray⟩ : ByteArray).toList == mt.toList
def nmB (an : Bool) (l : List TagL) (mt : ByteArray) : Bool := an || l.any fun t => eqT t mt
theorem nm_take {an : Bool} {l : List TagL} {mt : ByteArray} {k : Nat} (h : k < l.length) : nmB an (l.take (k + 1)) mt = (nmB an (l.take k) mt || eqT l[k] mt) := by
  unfold nmB
  rw [List.take_succ_eq_append_getElem h, List.any_append]
  simp [Bool.or_assoc]
theorem check_4 {sn : Nat} {ts us : List Tag} {am an : Bool} {si un : Int} {r t : Tag} {md ln : Int} (h : checkV sn ts us am an si un r t md ln true = 4) : am = true ∨ 0 < ts.length ∨ 0 ≤ un := by
  unfold checkV at h
  by_cases h1 : c1B ts am un t md true = true
  · unfold c1B at h1
    by_cases h2 : (decide (0 < ts.length) || am) = true
    · rw [Bool.or_eq_true] at h2
      rcases h2 with h2 | h2
      · exact .inr (.inl (of_decide_eq_true h2))
      · exact .inl h2
    · rw [if_neg h2] at h1
      simp only [Bool.and_eq_true, decide_eq_true_eq] at h1
      exact .inr (.inr h1.1.1.1)
  · rw [if_neg h1] at h
    split at h
    · omega
    · split at h <;> omega
theorem check_3 {sn : Nat} {ts : List Tag} {ns : List TagL} {am an : Bool} {si un : Int} {r : Tag} {mt : ByteArray} {mk : Bool} {md ln : Int} (h : checkV sn ts (ns.map TagL.to) am an si un r (mt, mk) md ln true = 3) : nmB an ns mt = true ∨ (0 ≤ si ∧ 0 ≤ md ∧ md ≤ si) := by
  unfold checkV at h
  by_cases h1 : c1B ts am un (mt, mk) md true = true
  · rw [if_pos h1] at h; omega
  · rw [if_neg h1] at h
    by_cases h2 : c2B (ns.map TagL.to) an si (mt, mk) md ln true = true
    · unfold c2B at h2
      by_cases h3 : (decide (0 < (ns.map TagL.to).length) || an) = true
      · rw [if_pos h3, Bool.true_and, Bool.or_eq_true] at h2
        left
        unfold nmB
        rw [Bool.or_eq_true]
        rcases h2 with h2 | h2
        · exact .inl h2
        · right
          unfold inB at h2
          rw [List.any_map] at h2
          obtain ⟨t, ht, hw⟩ := List.any_eq_true.1 h2
          refine List.any_eq_true.2 ⟨t, ht, ?_⟩
          have hw : weakB (TagL.to t) (mt, mk) = true := by simpa using hw
          unfold weakB at hw
          rw [Bool.and_eq_true] at hw
          exact hw.2
      · rw [if_neg h3] at h2
        simp only [Bool.and_eq_true, decide_eq_true_eq] at h2
        exact .inr ⟨h2.1.1.1.1, h2.1.2, h2.2⟩
    · rw [if_neg h2] at h
      split at h <;> omega

set_option maxRecDepth 100000 in
set_option maxHeartbeats 32000000 in
theorem spared_walk (rhd : Bool) (ob : ByteArray) (sA : Option Addr) (sc : Nat) (sl : List Sp) (mA : Option Addr) (mc : Nat) (ms : List TagL) (nA : Option Addr) (nc : Nat) (ns : List TagL) (am an : Bool) (si un : Int) (rt : ByteArray) (rk : Bool) (mt : ByteArray) (mk : Bool) (md ln hv fr wh er : Int) (kA : Option Addr) (kc : Nat) (ks : List ByteArray) (tn : ByteArray) (kp : Bool) (hmt : mt.size ≤ 9223372036854775807) (htn : tn.size ≤ 9223372036854775807) (hrt : rt.size ≤ 9223372036854775807) (hob : ob.size ≤ 9223372036854775807) (zm : ∀ t ∈ ms, t.1.length ≤ 9223372036854775807) (zn : ∀ t ∈ ns, t.1.length ≤ 9223372036854775807) (w : World) (hT : Tab w) (hX : TabX w) (hr : RdL LSp w w.heap.size (.slice sA sl.length sc) sl) (hm : RdL LT w w.heap.size (.slice mA ms.length mc) ms) (hn : RdL LT w w.heap.size (.slice nA ns.length nc) ns) (hk : RdStrs w w.heap.size (.slice kA ks.length kc) ks) :
    Calls Tryz.prog 3 #[.agg #[.bool rhd, .string ob, .slice sA sl.length sc, .slice mA ms.length mc, .slice nA ns.length nc, .bool am, .bool an, .int .i64 si, .int .i64 un, .string rt, .bool rk], .agg #[.string mt, .bool mk, .int .i64 md, .int .i64 ln, .int .i64 hv, .int .i64 fr, .int .i64 wh, .int .i64 er, .slice kA ks.length kc, .string tn, .bool kp]] w (BoolOk true w) := by
  have HR := hide hr
  have HM := hide hm
  have HN := hide hn
  have HK := hide hk
  have HT := hide hT
  have HX := hide hX
  clear hr hm hn hk hT hX
  go_enter Tryz.func3, Tryz.ntmps3
  go_upto_region 1 with fail
  obtain ⟨w1, hw1⟩ : ∃ w1 : World, w1 = ((w).alloc (.cells #[.bool rhd, .string ob, .slice sA sl.length sc, .slice mA ms.length mc, .slice nA ns.length nc, .bool am, .bool an, .int .i64 si, .int .i64 un, .string rt, .bool rk] 29)).alloc (.cells #[.string mt, .bool mk, .int .i64 md, .int .i64 ln, .int .i64 hv, .int .i64 fr, .int .i64 wh, .int .i64 er, .slice kA ks.length kc, .string tn, .bool kp] 32) := ⟨_, rfl⟩
  rw [← hw1]
  have hB1 : Below w.heap.size w w1 := by rw [hw1]; exact (((Below.refl _ _).alloc (Nat.le_refl _) _).alloc (by simp; try omega) _)
  have Q : Blk w1 (w.heap.size) 29 #[.bool rhd, .string ob, .slice sA sl.length sc, .slice mA ms.length mc, .slice nA ns.length nc, .bool am, .bool an, .int .i64 si, .int .i64 un, .string rt, .bool rk] := by rw [hw1]; exact ((Blk.new _ _ _).alloc _)
  have M : Blk w1 (w.heap.size + 1) 32 #[.string mt, .bool mk, .int .i64 md, .int .i64 ln, .int .i64 hv, .int .i64 fr, .int .i64 wh, .int .i64 er, .slice kA ks.length kc, .string tn, .bool kp] := by rw [hw1]; exact (Blk.new' (by simp))
  clear hw1
  have cQ := Q.cell
  have cM := M.cell
  go_wp2_with fail
  refine (right_any rhd ob sA sc sl mA mc ms nA nc ns am an si un rt rk w1 ((HR.out.below hB1).mono hB1.size) ((HM.out.below hB1).mono hB1.size) ((HN.out.below hB1).mono hB1.size) zm zn hrt hob).mono ?_
  rintro e w2 ⟨b2, rfl, hb10, hb2⟩
  clear cQ cM
  replace Q := Q.below hb2 Q.lt
  replace M := M.below hb2 M.lt
  have hB2 := hB1.trans (hb2.mono hB1.size)
  clear hb2 hB1
  have cQ := Q.cell
  have cM := M.cell
  cases b2
  · go_wp2_with fail
    refine (alive_any w2).mono ?_
    rintro e wz ⟨rfl, hbz⟩
    have hBz := hB2.trans (hbz.mono hB2.size)
    go_wp2_with fail
    go_ret
    exact ⟨rfl, hBz⟩
  · have hsl : sl.length ≤ 10 := hb10 rfl
    clear hb10
    by_cases hk10 : 10 < ks.length
    · go_wp2_with fail
      refine (alive_any w2).mono ?_
      rintro e wz ⟨rfl, hbz⟩
      have hBz := hB2.trans (hbz.mono hB2.size)
      go_wp2_with fail
      go_ret
      exact ⟨rfl, hBz⟩
    · by_cases hm100 : 100 < mt.size
      · go_wp2_with fail
        refine (alive_any w2).mono ?_
        rintro e wz ⟨rfl, hbz⟩
        have hBz := hB2.trans (hbz.mono hB2.size)
        go_wp2_with fail
        go_ret
        exact ⟨rfl, hBz⟩
      · by_cases ht60 : 60 < tn.size
        · go_wp2_with fail
          refine (alive_any w2).mono ?_
          rintro e wz ⟨rfl, hbz⟩
          have hBz := hB2.trans (hbz.mono hB2.size)
          go_wp2_with fail
          go_ret
          exact ⟨rfl, hBz⟩
        · go_wp2_with fail
          refine (meta_right mt mk md ln hv fr wh er _ tn kp ks _ (by omega) (by omega) ((HK.out.below hB2).mono hB2.size)).mono ?_
          rintro e w4 ⟨rfl, hb4⟩
          clear cQ cM
          replace Q := Q.below hb4 Q.lt
          replace M := M.below hb4 M.lt
          have hB4 := hB2.trans (hb4.mono hB2.size)
          clear hb4 hB2
          have cQ := Q.cell
          have cM := M.cell
          cases hmo : metaOk mt mk md ln hv fr wh er ks tn
          · go_wp2_with fail
            refine (alive_any w4).mono ?_
            rintro e wz ⟨rfl, hbz⟩
            have hBz := hB4.trans (hbz.mono hB4.size)
            go_wp2_with fail
            go_ret
            exact ⟨rfl, hBz⟩
          · have HMO := hide hmo
            clear hmo
            go_upto_region 3 with fail
            obtain ⟨wr, hwr⟩ : ∃ W : World, W = w4 := ⟨_, rfl⟩
            rw [← hwr] at Q M hB4 ⊢
            clear hwr cQ cM
            obtain ⟨qb, hqb⟩ : ∃ n, n = w.heap.size := ⟨_, rfl⟩
            rw [← hqb] at Q M ⊢
            obtain ⟨mb, hmb⟩ : ∃ n, n = qb + 1 := ⟨_, rfl⟩
            rw [← hmb] at M ⊢
            clear hqb hmb
            have HQ := hide Q
            have HMt := hide M
            clear Q M
            obtain ⟨oc, hoc⟩ : ∃ z : Int, checkV sl.length (ms.map TagL.to) (ns.map TagL.to) am an si un (rt, rk) (mt, mk) md ln true = z := ⟨_, rfl⟩
            have HC3 := hide (fun h : oc = 3 => check_3 (hoc.trans h))
            have HC4 := hide (fun h : oc = 4 => check_4 (hoc.trans h))
            have HCK := hide (fun (W : World) (h : Below wr.heap.size wr W) => (check_any rhd ob sA sl.length sc (.slice mA ms.length mc) (.slice nA ns.length nc) (ms.map TagL.to) (ns.map TagL.to) am an si un rt rk mt mk md ln hv fr wh er (.slice kA ks.length kc) tn kp true W (by omega) hrt ((((HM.out.below hB4).mono hB4.size).below h).mono h.size |>.tags zm) ((((HN.out.below hB4).mono hB4.size).below h).mono h.size |>.tags zn)))
            rw [hoc] at HCK
            have HSH := hide (fun (W : World) (h : Below wr.heap.size wr W) => (show Calls Tryz.prog 8 #[.agg #[.bool rhd, .string ob, .slice sA sl.length sc, .slice mA ms.length mc, .slice nA ns.length nc, .bool am, .bool an, .int .i64 si, .int .i64 un, .string rt, .bool rk], .agg #[.string mt, .bool mk, .int .i64 md, .int .i64 ln, .int .i64 hv, .int .i64 fr, .int .i64 wh, .int .i64 er, .slice kA ks.length kc, .string tn, .bool kp], .int .i64 oc, .agg #[.int .i64 4, .int .i64 0, .int .i64 64, .int .i64 8, .int .i64 2, .int .i64 1, .int .i64 8, .int .i64 400, .int .i64 400, .int .i64 16], .int .i64 1] W (AnsOk W W (ln ≠ -1) (ShpQ rhd sl ln hv oc)) from shape_any rhd ob sA sc sl (.slice mA ms.length mc) (.slice nA ns.length nc) am an si un rt rk mt mk md ln hv fr wh er kA kc ks tn kp oc 1 (by decide) W (by omega) (by omega) (((HR.out.below hB4).mono hB4.size |>.below h).mono h.size) (by omega) (((HK.out.below hB4).mono hB4.size |>.below h).mono h.size) HMO.out ((HT.out.below hB4).below h) ((HX.out.below hB4).below h)))
            clear hoc
            go_cut [5] (fun p5 wx => ∃ (g : Nat) (sta siz : Int) (fA : Option Addr) (fn fc : Nat) (pA : Option Addr) (pc : Nat) (ps : List P3), p5 = .pointer (some ⟨g, 0, none⟩) ∧ wr.heap.size ≤ g ∧ Blk wx g 39 #[.int .i64 sta, .slice fA fn fc, .slice pA ps.length pc, .int .i64 siz] ∧ ShpQ rhd sl ln hv oc sta siz ps ∧ Below wr.heap.size wr wx)
            case first =>
              refine wp_region_mem 8 [37, 38, 39, 40, 41, 42, 43, 5] (by kernel_rfl) (by kernel_rfl) (fun i v W => match i with | 0 => v = .agg #[.bool rhd, .string ob, .slice sA sl.length sc, .slice mA ms.length mc, .slice nA ns.length nc, .bool am, .bool an, .int .i64 si, .int .i64 un, .string rt, .bool rk] | 1 => v = .agg #[.string mt, .bool mk, .int .i64 md, .int .i64 ln, .int .i64 hv, .int .i64 fr, .int .i64 wh, .int .i64 er, .slice kA ks.length kc, .string tn, .bool kp] | 2 => v = .agg #[.bool rhd, .string ob, .slice sA sl.length sc, .slice mA ms.length mc, .slice nA ns.length nc, .bool am, .bool an, .int .i64 si, .int .i64 un, .string rt, .bool rk] | 3 => v = .agg #[.string mt, .bool mk, .int .i64 md, .int .i64 ln, .int .i64 hv, .int .i64 fr, .int .i64 wh, .int .i64 er, .slice kA ks.length kc, .string tn, .bool kp] | 4 => v = .int .i64 oc | 5 => v = .agg #[.int .i64 4, .int .i64 0, .int .i64 64, .int .i64 8, .int .i64 2, .int .i64 1, .int .i64 8, .int .i64 400, .int .i64 400, .int .i64 16] | 6 => ∃ (sta siz : Int) (fA : Option Addr) (fn fc : Nat) (pA : Option Addr) (pc : Nat) (ps : List P3), v = .agg #[.int .i64 sta, .slice fA fn fc, .slice pA ps.length pc, .int .i64 siz] ∧ ShpQ rhd sl ln hv oc sta siz ps | 7 => ∃ g, v = .pointer (some ⟨g, 0, none⟩) ∧ wr.heap.size ≤ g ∧ Blk W g 39 #[.int .i64 0, .slice none 0 0, .slice none 0 0, .int .i64 0] | _ => True) ?mono ?step ?fin ?last
              case mono =>
                intro i v w w' h hbw
                rcases i with _ | _ | _ | _ | _ | _ | _ | _ | i
                · exact h
                · exact h
                · exact h
                · exact h
                · exact h
                · exact h
                · exact h
                · obtain ⟨g, rfl, h1, h2⟩ := h; exact ⟨g, rfl, h1, h2.below hbw h2.lt⟩
                · trivial
              case step =>
                intro i o a w hin ho hS hb hd
                rcases i with _ | _ | _ | _ | _ | _ | _ | _ | i
                · obtain rfl := Option.some.inj ho
                  have hx : a.tmps[2]?.getD undef = .pointer (some ⟨qb, 0, none⟩) := by rw [← slot_get, slot_old hS (by decide)]; rfl
                  have hc0 : w.cell? ⟨qb, 0, none⟩ = some (.bool rhd) := (HQ.out.below hb HQ.out.lt).cell 0
                  have hc1 : w.cell? ⟨qb, 1, none⟩ = some (.string ob) := (HQ.out.below hb HQ.out.lt).cell 1
                  have hc2 : w.cell? ⟨qb, 2, none⟩ = some (.slice sA sl.length sc) := (HQ.out.below hb HQ.out.lt).cell 2
                  have hc3 : w.cell? ⟨qb, 3, none⟩ = some (.slice mA ms.length mc) := (HQ.out.below hb HQ.out.lt).cell 3
                  have hc4 : w.cell? ⟨qb, 4, none⟩ = some (.slice nA ns.length nc) := (HQ.out.below hb HQ.out.lt).cell 4
                  have hc5 : w.cell? ⟨qb, 5, none⟩ = some (.bool am) := (HQ.out.below hb HQ.out.lt).cell 5
                  have hc6 : w.cell? ⟨qb, 6, none⟩ = some (.bool an) := (HQ.out.below hb HQ.out.lt).cell 6
                  have hc7 : w.cell? ⟨qb, 7, none⟩ = some (.int .i64 si) := (HQ.out.below hb HQ.out.lt).cell 7
                  have hc8 : w.cell? ⟨qb, 8, none⟩ = some (.int .i64 un) := (HQ.out.below hb HQ.out.lt).cell 8
                  have hc9 : w.cell? ⟨qb, 9, none⟩ = some (.string rt) := (HQ.out.below hb HQ.out.lt).cell 9
                  have hc10 : w.cell? ⟨qb, 10, none⟩ = some (.bool rk) := (HQ.out.below hb HQ.out.lt).cell 10
                  refine op_run (v := .agg #[.bool rhd, .string ob, .slice sA sl.length sc, .slice mA ms.length mc, .slice nA ns.length nc, .bool am, .bool an, .int .i64 si, .int .i64 un, .string rt, .bool rk]) (w' := w) (by simp [execOp, go_sem, hx, hc0, hc1, hc2, hc3, hc4, hc5, hc6, hc7, hc8, hc9, hc10]) ?_
                  exact ⟨_, rfl, Below.refl _ _, rfl⟩
                · obtain rfl := Option.some.inj ho
                  have hx : a.tmps[3]?.getD undef = .pointer (some ⟨mb, 0, none⟩) := by rw [← slot_get, slot_old hS (by decide)]; rfl
                  have hc0 : w.cell? ⟨mb, 0, none⟩ = some (.string mt) := (HMt.out.below hb HMt.out.lt).cell 0
                  have hc1 : w.cell? ⟨mb, 1, none⟩ = some (.bool mk) := (HMt.out.below hb HMt.out.lt).cell 1
                  have hc2 : w.cell? ⟨mb, 2, none⟩ = some (.int .i64 md) := (HMt.out.below hb HMt.out.lt).cell 2
                  have hc3 : w.cell? ⟨mb, 3, none⟩ = some (.int .i64 ln) := (HMt.out.below hb HMt.out.lt).cell 3
                  have hc4 : w.cell? ⟨mb, 4, none⟩ = some (.int .i64 hv) := (HMt.out.below hb HMt.out.lt).cell 4
                  have hc5 : w.cell? ⟨mb, 5, none⟩ = some (.int .i64 fr) := (HMt.out.below hb HMt.out.lt).cell 5
                  have hc6 : w.cell? ⟨mb, 6, none⟩ = some (.int .i64 wh) := (HMt.out.below hb HMt.out.lt).cell 6
                  have hc7 : w.cell? ⟨mb, 7, none⟩ = some (.int .i64 er) := (HMt.out.below hb HMt.out.lt).cell 7
                  have hc8 : w.cell? ⟨mb, 8, none⟩ = some (.slice kA ks.length kc) := (HMt.out.below hb HMt.out.lt).cell 8
                  have hc9 : w.cell? ⟨mb, 9, none⟩ = some (.string tn) := (HMt.out.below hb HMt.out.lt).cell 9
                  have hc10 : w.cell? ⟨mb, 10, none⟩ = some (.bool kp) := (HMt.out.below hb HMt.out.lt).cell 10
                  refine op_run (v := .agg #[.string mt, .bool mk, .int .i64 md, .int .i64 ln, .int .i64 hv, .int .i64 fr, .int .i64 wh, .int .i64 er, .slice kA ks.length kc, .string tn, .bool kp]) (w' := w) (by simp [execOp, go_sem, hx, hc0, hc1, hc2, hc3, hc4, hc5, hc6, hc7, hc8, hc9, hc10]) ?_
                  exact ⟨_, rfl, Below.refl _ _, rfl⟩
                · obtain rfl := Option.some.inj ho
                  have hx : a.tmps[2]?.getD undef = .pointer (some ⟨qb, 0, none⟩) := by rw [← slot_get, slot_old hS (by decide)]; rfl
                  have hc0 : w.cell? ⟨qb, 0, none⟩ = some (.bool rhd) := (HQ.out.below hb HQ.out.lt).cell 0
                  have hc1 : w.cell? ⟨qb, 1, none⟩ = some (.string ob) := (HQ.out.below hb HQ.out.lt).cell 1
                  have hc2 : w.cell? ⟨qb, 2, none⟩ = some (.slice sA sl.length sc) := (HQ.out.below hb HQ.out.lt).cell 2
                  have hc3 : w.cell? ⟨qb, 3, none⟩ = some (.slice mA ms.length mc) := (HQ.out.below hb HQ.out.lt).cell 3
                  have hc4 : w.cell? ⟨qb, 4, none⟩ = some (.slice nA ns.length nc) := (HQ.out.below hb HQ.out.lt).cell 4
                  have hc5 : w.cell? ⟨qb, 5, none⟩ = some (.bool am) := (HQ.out.below hb HQ.out.lt).cell 5
                  have hc6 : w.cell? ⟨qb, 6, none⟩ = some (.bool an) := (HQ.out.below hb HQ.out.lt).cell 6
                  have hc7 : w.cell? ⟨qb, 7, none⟩ = some (.int .i64 si) := (HQ.out.below hb HQ.out.lt).cell 7
                  have hc8 : w.cell? ⟨qb, 8, none⟩ = some (.int .i64 un) := (HQ.out.below hb HQ.out.lt).cell 8
                  have hc9 : w.cell? ⟨qb, 9, none⟩ = some (.string rt) := (HQ.out.below hb HQ.out.lt).cell 9
                  have hc10 : w.cell? ⟨qb, 10, none⟩ = some (.bool rk) := (HQ.out.below hb HQ.out.lt).cell 10
                  refine op_run (v := .agg #[.bool rhd, .string ob, .slice sA sl.length sc, .slice mA ms.length mc, .slice nA ns.length nc, .bool am, .bool an, .int .i64 si, .int .i64 un, .string rt, .bool rk]) (w' := w) (by simp [execOp, go_sem, hx, hc0, hc1, hc2, hc3, hc4, hc5, hc6, hc7, hc8, hc9, hc10]) ?_
                  exact ⟨_, rfl, Below.refl _ _, rfl⟩
                · obtain rfl := Option.some.inj ho
                  have hx : a.tmps[3]?.getD undef = .pointer (some ⟨mb, 0, none⟩) := by rw [← slot_get, slot_old hS (by decide)]; rfl
                  have hc0 : w.cell? ⟨mb, 0, none⟩ = some (.string mt) := (HMt.out.below hb HMt.out.lt).cell 0
                  have hc1 : w.cell? ⟨mb, 1, none⟩ = some (.bool mk) := (HMt.out.below hb HMt.out.lt).cell 1
                  have hc2 : w.cell? ⟨mb, 2, none⟩ = some (.int .i64 md) := (HMt.out.below hb HMt.out.lt).cell 2
                  have hc3 : w.cell? ⟨mb, 3, none⟩ = some (.int .i64 ln) := (HMt.out.below hb HMt.out.lt).cell 3
                  have hc4 : w.cell? ⟨mb, 4, none⟩ = some (.int .i64 hv) := (HMt.out.below hb HMt.out.lt).cell 4
                  have hc5 : w.cell? ⟨mb, 5, none⟩ = some (.int .i64 fr) := (HMt.out.below hb HMt.out.lt).cell 5
                  have hc6 : w.cell? ⟨mb, 6, none⟩ = some (.int .i64 wh) := (HMt.out.below hb HMt.out.lt).cell 6
                  have hc7 : w.cell? ⟨mb, 7, none⟩ = some (.int .i64 er) := (HMt.out.below hb HMt.out.lt).cell 7
                  have hc8 : w.cell? ⟨mb, 8, none⟩ = some (.slice kA ks.length kc) := (HMt.out.below hb HMt.out.lt).cell 8
                  have hc9 : w.cell? ⟨mb, 9, none⟩ = some (.string tn) := (HMt.out.below hb HMt.out.lt).cell 9
                  have hc10 : w.cell? ⟨mb, 10, none⟩ = some (.bool kp) := (HMt.out.below hb HMt.out.lt).cell 10
                  refine op_run (v := .agg #[.string mt, .bool mk, .int .i64 md, .int .i64 ln, .int .i64 hv, .int .i64 fr, .int .i64 wh, .int .i64 er, .slice kA ks.length kc, .string tn, .bool kp]) (w' := w) (by simp [execOp, go_sem, hx, hc0, hc1, hc2, hc3, hc4, hc5, hc6, hc7, hc8, hc9, hc10]) ?_
                  exact ⟨_, rfl, Below.refl _ _, rfl⟩
                · obtain rfl := Option.some.inj ho
                  have dD0 := hd ⟨2, .data⟩ (by simp) rfl
                  have h0 : a.tmps[39]?.getD undef = .agg #[.bool rhd, .string ob, .slice sA sl.length sc, .slice mA ms.length mc, .slice nA ns.length nc, .bool am, .bool an, .int .i64 si, .int .i64 un, .string rt, .bool rk] := by rw [← slot_get]; exact dD0
                  have dD1 := hd ⟨3, .data⟩ (by simp) rfl
                  have h1 : a.tmps[40]?.getD undef = .agg #[.string mt, .bool mk, .int .i64 md, .int .i64 ln, .int .i64 hv, .int .i64 fr, .int .i64 wh, .int .i64 er, .slice kA ks.length kc, .string tn, .bool kp] := by rw [← slot_get]; exact dD1
                  refine op_call (f := 9) (args := #[.agg #[.bool rhd, .string ob, .slice sA sl.length sc, .slice mA ms.length mc, .slice nA ns.length nc, .bool am, .bool an, .int .i64 si, .int .i64 un, .string rt, .bool rk], .agg #[.string mt, .bool mk, .int .i64 md, .int .i64 ln, .int .i64 hv, .int .i64 fr, .int .i64 wh, .int .i64 er, .slice kA ks.length kc, .string tn, .bool kp], .bool true]) (by simp [execOp, go_sem, h0, h1]) (HCK.out w hb) ?_
                  rintro e w' ⟨rfl, hbw⟩
                  exact ⟨_, rfl, _, rfl, hbw, rfl⟩
                · obtain rfl := Option.some.inj ho
                  refine op_call (f := 10) (args := #[]) (by simp [execOp, go_sem, ]) (conf_any w) ?_
                  rintro e w' ⟨rfl, hbw⟩
                  exact ⟨_, rfl, _, rfl, hbw, rfl⟩
                · obtain rfl := Option.some.inj ho
                  have dD0 := hd ⟨0, .data⟩ (by simp) rfl
                  have h0 : a.tmps[37]?.getD undef = .agg #[.bool rhd, .string ob, .slice sA sl.length sc, .slice mA ms.length mc, .slice nA ns.length nc, .bool am, .bool an, .int .i64 si, .int .i64 un, .string rt, .bool rk] := by rw [← slot_get]; exact dD0
                  have dD1 := hd ⟨1, .data⟩ (by simp) rfl
                  have h1 : a.tmps[38]?.getD undef = .agg #[.string mt, .bool mk, .int .i64 md, .int .i64 ln, .int .i64 hv, .int .i64 fr, .int .i64 wh, .int .i64 er, .slice kA ks.length kc, .string tn, .bool kp] := by rw [← slot_get]; exact dD1
                  have dD2 := hd ⟨4, .data⟩ (by simp) rfl
                  have h2 : a.tmps[41]?.getD undef = .int .i64 oc := by rw [← slot_get]; exact dD2
                  have dD3 := hd ⟨5, .data⟩ (by simp) rfl
                  have h3 : a.tmps[42]?.getD undef = .agg #[.int .i64 4, .int .i64 0, .int .i64 64, .int .i64 8, .int .i64 2, .int .i64 1, .int .i64 8, .int .i64 400, .int .i64 400, .int .i64 16] := by rw [← slot_get]; exact dD3
                  refine op_call (f := 8) (args := #[.agg #[.bool rhd, .string ob, .slice sA sl.length sc, .slice mA ms.length mc, .slice nA ns.length nc, .bool am, .bool an, .int .i64 si, .int .i64 un, .string rt, .bool rk], .agg #[.string mt, .bool mk, .int .i64 md, .int .i64 ln, .int .i64 hv, .int .i64 fr, .int .i64 wh, .int .i64 er, .slice kA ks.length kc, .string tn, .bool kp], .int .i64 oc, .agg #[.int .i64 4, .int .i64 0, .int .i64 64, .int .i64 8, .int .i64 2, .int .i64 1, .int .i64 8, .int .i64 400, .int .i64 400, .int .i64 16], .int .i64 1]) (by simp [execOp, go_sem, h0, h1, h2, h3]) (HSH.out w hb) ?_
                  rintro e w' ⟨sta, siz, fA, fn, fc, pA, pc, ps, rfl, hq, -, -, -, hbw⟩
                  exact ⟨_, rfl, _, rfl, hbw, sta, siz, fA, fn, fc, pA, pc, ps, rfl, hq⟩
                · obtain rfl := Option.some.inj ho
                  refine op_run (v := .pointer (some ⟨w.heap.size, 0, none⟩)) (w' := w.alloc (.cells #[.int .i64 0, .slice none 0 0, .slice none 0 0, .int .i64 0] 39)) (by kernel_rfl) ?_
                  exact ⟨_, rfl, (Below.refl _ _).alloc (Nat.le_refl _) _, _, rfl, hb.size, Blk.new _ _ _⟩
                · omega
              case fin =>
                intro h; exact absurd h (by decide)
              case last =>
                intro _ o a w ho hS hb hG
                obtain rfl := Option.some.inj ho
                obtain ⟨sta, siz, fA, fn, fc, pA, pc, ps, d6, hq⟩ := hG 6 (by decide)
                obtain ⟨g, d7, hgw, hbg⟩ := hG 7 (by decide)
                have h0 : a.tmps[5]?.getD undef = .pointer (some ⟨g, 0, none⟩) := by rw [← slot_get]; exact d7
                have h1 : a.tmps[43]?.getD undef = .agg #[.int .i64 sta, .slice fA fn fc, .slice pA ps.length pc, .int .i64 siz] := by rw [← slot_get]; exact d6
                have hc0 : w.cell? ⟨g, 0, none⟩ = some (.int .i64 0) := hbg.cell 0
                have hc1 : w.cell? ⟨g, 1, none⟩ = some (.slice none 0 0) := hbg.cell 1
                have hc2 : w.cell? ⟨g, 2, none⟩ = some (.slice none 0 0) := hbg.cell 2
                have hc3 : w.cell? ⟨g, 3, none⟩ = some (.int .i64 0) := hbg.cell 3
                have hf := hbg.frozen
                refine op_skip0 rfl (w' := (((w.setCell ⟨g, 0, none⟩ (.int .i64 sta)).setCell ⟨g, 1, none⟩ (.slice fA fn fc)).setCell ⟨g, 2, none⟩ (.slice pA ps.length pc)).setCell ⟨g, 3, none⟩ (.int .i64 siz)) (by simp [execOp, go_sem, h0, h1, hc0, hc1, hc2, hc3, hf]) ?_
                have hl := hS.lit
                simp only [List.foldl, List.setIfInBounds_toArray, List.set_cons_zero, List.set_cons_succ] at hl
                have s5 : slot a 5 = _ := d7
                have s43 : slot a 43 = _ := d6
                rw [s5, s43] at hl
                generalize slot a 37 = z37 at hl
                generalize slot a 38 = z38 at hl
                generalize slot a 39 = z39 at hl
                generalize slot a 40 = z40 at hl
                generalize slot a 41 = z41 at hl
                generalize slot a 42 = z42 at hl
                subst hl
                clear hG hS
                go_wp2_with fail
                go_meet
                exact ⟨g, sta, siz, fA, fn, fc, pA, pc, ps, rfl, hgw, (((hbg.set_ 0 _).set_ 1 _).set_ 2 _).set_ 3 _, hq, below_set (below_set (below_set (below_set hb hgw _) hgw _) hgw _) hgw _⟩
            case rest =>
              obtain ⟨g, sta, siz, fA, fn, fc, pA, pc, ps, rfl, hgw, A, hq, hbc⟩ := hcut
              have hB5 := hB4.trans (hbc.mono hB4.size)
              replace Q := HQ.out.below hbc HQ.out.lt
              replace M := HMt.out.below hbc HMt.out.lt
              clear HQ HMt HCK HSH
              have cA := A.cell
              have cQ := Q.cell
              have cM := M.cell
              rcases spared_cases hq with ⟨rfl, h3, rfl, rfl⟩ | ⟨rfl, h4, rfl, rfl⟩ | ⟨n1, n2⟩
              · have HLAW := hide (show ∀ q : Bool, q = nmB an ns mt → q = true ∨ (0 ≤ si ∧ 0 ≤ md ∧ md ≤ si) from fun q hq => by rw [hq]; exact HC3.out h3)
                clear hq HC3 HC4 h3
                have d0 : (304 : Int) ≠ 412 := by decide
                have hnl := HN.out.len
                go_wp2_with fail
                go_loopw [6, 8, 91] (fun c6 _ c91 wr2 => ∃ (k : Nat) (q : Bool), k ≤ ns.length ∧ c91 = .int .i64 (k : Int) ∧ c6 = .bool q ∧ Hid (q = nmB an (ns.take k) mt) ∧ Below wc.heap.size wc wr2) (fun _ _ c91 _ => ns.length - (intOf c91).toNat)
                case atStart => exact ⟨0, an, Nat.zero_le _, rfl, rfl, by simp [nmB, Hid], Below.refl _ _⟩
                case round =>
                  skip
                  obtain ⟨k, q, hk, rfl, rfl, HQK, hb⟩ := hrel
                  have hBr : Below w.heap.size w wr := hB5.trans (hb.mono hB5.size)
                  skip
                  by_cases hlt : k < ns.length
                  · obtain ⟨b0, o0, hA, hbl, hcell⟩ := HN.out.at_ k hlt
                    subst hA
                    obtain ⟨x, hx⟩ : ∃ x : ByteArray, x = ⟨ns[k].1.toArray⟩ := ⟨_, rfl⟩
                    obtain ⟨xq, hxq⟩ : ∃ q, q = ns[k].2 := ⟨_, rfl⟩
                    have e0 : wr.cell? ⟨b0, o0 + k * 2, none⟩ = some (.string x) := by rw [hBr.cell (by show b0 < _; omega), hx]; simpa [LT] using hcell 0 _ rfl
                    have e1 : wr.cell? ⟨b0, o0 + k * 2 + 1, none⟩ = some (.bool xq) := by rw [hBr.cell (by show b0 < _; omega), hxq]; simpa [LT] using hcell 1 _ rfl
                    have HNX := hide (show nmB an (ns.take (k + 1)) mt = (q || (x.toList == mt.toList)) by rw [nm_take hlt, ← HQK.out, hx]; rfl)
                    have Q2 := Q.below hb Q.lt
                    have M2 := M.below hb M.lt
                    clear hcell hx hxq HQK hBr
                    go_upto_region 14 with fail
                    obtain ⟨w6, hw6⟩ : ∃ W : World, W = wr.alloc (.cells #[.string x, .bool xq] 25) := ⟨_, rfl⟩
                    first | rw [← hw6] | skip
                    have X : Blk w6 wr.heap.size 25 #[.string x, .bool xq] := by rw [hw6]; exact Blk.new _ _ _
                    have M6 := M2.alloc (.cells #[.string x, .bool xq] 25)
                    rw [← hw6] at M6
                    have hB6 : Below wc.heap.size wc w6 := by rw [hw6]; exact hb.alloc hb.size _
                    obtain ⟨xb, hxb⟩ : ∃ n, n = wr.heap.size := ⟨_, rfl⟩
                    rw [← hxb] at X ⊢
                    clear hw6 hxb e0 e1 hb M2 Q2
                    have cX := X.cell
                    have cM6 := M6.cell
                    cases q
                    · obtain ⟨z, hz⟩ : ∃ z : Bool, (x.toList == mt.toList) = z := ⟨_, rfl⟩
                      rw [hz] at HNX
                      have HN2 := hide (show z = nmB an (ns.take (k + 1)) mt by rw [HNX.out]; rfl)
                      go_wp2_with fail
                      go_roundw
                      case rel => exact ⟨k + 1, z, by omega, by go_num, rfl, HN2, hB6⟩
                      case measure => simp [intOf] <;> omega
                    · have HN2 := hide (show true = nmB an (ns.take (k + 1)) mt by rw [HNX.out]; rfl)
                      go_wp2_with fail
                      go_roundw
                      case rel => exact ⟨k + 1, true, by omega, by go_num, rfl, HN2, hB6⟩
                      case measure => simp [intOf] <;> omega
                  · have hfin := HLAW.out q (show q = nmB an ns mt by have := HQK.out; rwa [List.take_of_length_le (by omega)] at this)
                    have Q2 := Q.below hb Q.lt
                    have M2 := M.below hb M.lt
                    clear cQ cM
                    have cQ := Q2.cell
                    have cM := M2.cell
                    clear HQK Q M
                    cases q
                    · obtain ⟨z1, z2, z3⟩ : 0 ≤ si ∧ 0 ≤ md ∧ md ≤ si := hfin.resolve_left (by decide)
                      go_wp2_with fail
                      refine (alive_any wr).mono ?_
                      rintro e wz ⟨rfl, hbz⟩
                      have hBz := hBr.trans (hbz.mono hBr.size)
                      go_wp2_with fail
                      go_ret
                      exact ⟨rfl, hBz⟩
                    · go_wp2_with fail
                      refine (alive_any wr).mono ?_
                      rintro e wz ⟨rfl, hbz⟩
                      have hBz := hBr.trans (hbz.mono hBr.size)
                      go_wp2_with fail
                      go_ret
                      exact ⟨rfl, hBz⟩
              · have hw4 := HC4.out h4
                have HC4 := hide (fun _ : (0 : Nat) = 0 => hw4)
                clear hq HC3 h4 hw4
                have hw := HC4.out rfl
                cases am
                · by_cases hms : 0 < ms.length
                  · go_wp2_with fail
                    refine (alive_any wc).mono ?_
                    rintro e wz ⟨rfl, hbz⟩
                    have hBz := hB5.trans (hbz.mono hB5.size)
                    go_wp2_with fail
                    go_ret
                    exact ⟨rfl, hBz⟩
                  · have hun : 0 ≤ un := by
                      rcases hw with h | h | h
                      · cases h
                      · rw [List.length_map] at h; exact absurd h hms
                      · exact h
                    go_wp2_with fail
                    refine (alive_any wc).mono ?_
                    rintro e wz ⟨rfl, hbz⟩
                    have hBz := hB5.trans (hbz.mono hB5.size)
                    go_wp2_with fail
                    go_ret
                    exact ⟨rfl, hBz⟩
                · go_wp2_with fail
                  refine (alive_any wc).mono ?_
                  rintro e wz ⟨rfl, hbz⟩
                  have hBz := hB5.trans (hbz.mono hB5.size)
                  go_wp2_with fail
                  go_ret
                  exact ⟨rfl, hBz⟩
              · have q1 : (sta != 304) = true := by simpa using n1
                have q2 : (sta != 412) = true := by simpa using n2
                clear hq
                go_wp2_with fail
                refine (alive_any wc).mono ?_
                rintro e wz ⟨rfl, hbz⟩
                have hBz := hB5.trans (hbz.mono hB5.size)
                go_wp2_with fail
                go_ret
                exact ⟨rfl, hBz⟩

end Go.Proofs.YtfcbmajogmojbaaGreatDoor
