/-
  What is put into a map.
-/
import Derived.Test.YtfcbmajogmojbaaDoorMapA
import Derived.Deep.CutBlock
namespace Go.Proofs.YtfcbmajogmojbaaDoor
open Go.RowKit
set_option linter.unusedVariables false
set_option linter.unusedSimpArgs false

theorem min_if (a b : Int) : min a b = if b < a then b else a := by omega
theorem proper_ok {f t : Int} (h : properB f t = true) : okS (f, t) := by
  unfold properB rightB at h
  simp at h
  exact ⟨h.1.1, h.2, h.1.2.2⟩
theorem proper_no {f t : Int} (h : properB f t = false) : ¬ okS (f, t) := by
  rintro ⟨h1, h2, h3⟩
  unfold properB rightB at h
  simp at h
  have := h h1 (by omega) h3
  omega
theorem q_false {b : Bool} {s r : Int} (h : false = (!b && decide (r > s))) : b = (b || decide (s < r)) := by
  cases b
  · have : ¬ s < r := by simpa using h
    simp [this]
  · rfl
theorem grown_none {w w' : World} (h : Below w.heap.size w w') (row : Option Nat) : w.grownBy w' row := ⟨h.os, h.tape, h.output, h.size, fun k hk _ => h.block k hk⟩
/-- A map tells runs behind a call. -/
def MapOk (gm : Nat) (r : List Rn) (w : World) (e : Ending) (w' : World) : Prop :=
  ∃ (V : Value) (n : Value), e = .returned n ∧ Blk w' gm 58 #[V] ∧ RdL LRn w' w'.heap.size V r ∧ w.grownBy w' (some gm)

set_option maxRecDepth 100000 in
set_option maxHeartbeats 16000000 in
theorem put_any (gm : Nat) (V0 : Value) (l : List Rn) (sf st v : Int) (w : World) (hG : Blk w gm 58 #[V0]) (hr : RdL LRn w w.heap.size V0 l) (hN : RNf l) (hll : l.length ≤ 10000) : Calls Tryd.prog 10 #[.pointer (some ⟨gm, 0, none⟩), .agg #[.int .i64 sf, .int .i64 st], .int .u8 v] w (MapOk gm (if properB sf st = true then putR (sf, st) v l else l) w) := by
  obtain ⟨A, c, rfl, hlc, hc⟩ := hr.form
  have HR := hide hr
  clear hr
  obtain ⟨R, hR⟩ : ∃ R, R = (if properB sf st = true then putR (sf, st) v l else l) := ⟨_, rfl⟩
  rw [← hR]
  cases hp : properB sf st
  · have HPR := hide (show R = l by rw [hR, hp]; rfl)
    clear hR
    go_enter Tryd.func10, Tryd.ntmps10
    go_upto_region 1 with fail
    obtain ⟨w1, hw1⟩ : ∃ w1 : World, w1 = w.alloc (.cells #[.int .i64 sf, .int .i64 st] 31) := ⟨_, rfl⟩
    rw [← hw1]
    have hB1 : Below w.heap.size w w1 := by rw [hw1]; exact (Below.refl _ _).alloc (Nat.le_refl _) _
    have S : Blk w1 w.heap.size 31 #[.int .i64 sf, .int .i64 st] := by rw [hw1]; exact Blk.new _ _ _
    have G : Blk w1 gm 58 #[.slice A l.length c] := by rw [hw1]; exact hG.alloc _
    clear hw1
    have cS := S.cell
    have cG := G.cell
    go_wp2_with fail
    refine (proper_any sf st w1).mono ?_
    rw [hp]
    rintro e w2 ⟨rfl, hb2⟩
    have hB2 := hB1.trans (hb2.mono hB1.size)
    have S0 := S.below hb2 S.lt
    have G0 := G.below hb2 G.lt
    clear cS cG S G hb2
    have cS := S0.cell
    have cG := G0.cell
    clear hp
    go_wp2_with fail
    go_ret
    exact ⟨_, _, rfl, G0, by rw [HPR.out]; exact (HR.out.below hB2).mono hB2.size, grown_none hB2 _⟩
  · have hok := proper_ok hp
    have HS := hide hok
    have HRN := hide hN
    have HPR0 := hide (show R = putR (sf, st) v l by rw [hR, hp]; rfl)
    clear hR
    go_enter Tryd.func10, Tryd.ntmps10
    go_upto_region 1 with fail
    obtain ⟨w1, hw1⟩ : ∃ w1 : World, w1 = w.alloc (.cells #[.int .i64 sf, .int .i64 st] 31) := ⟨_, rfl⟩
    rw [← hw1]
    have hB1 : Below w.heap.size w w1 := by rw [hw1]; exact (Below.refl _ _).alloc (Nat.le_refl _) _
    have S : Blk w1 w.heap.size 31 #[.int .i64 sf, .int .i64 st] := by rw [hw1]; exact Blk.new _ _ _
    have G : Blk w1 gm 58 #[.slice A l.length c] := by rw [hw1]; exact hG.alloc _
    clear hw1
    have cS := S.cell
    have cG := G.cell
    go_wp2_with fail
    refine (proper_any sf st w1).mono ?_
    rw [hp]
    rintro e w2 ⟨rfl, hb2⟩
    have hB2 := hB1.trans (hb2.mono hB1.size)
    have S0 := S.below hb2 S.lt
    have G0 := G.below hb2 G.lt
    clear cS cG S G hb2
    have cS := S0.cell
    have cG := G0.cell
    clear hp hok hN
    go_wp2_with (refine wpList_mkL LRn (by rfl) (.const (.int .i64 0)) (.tmp 21) _ (by rfl) rfl ((l.length : Int) + 2) (l.length + 2) (by rfl) (by rfl) (by omega) (by simp only [LRn]; omega) (by unfold maxLen; omega) ?_; intro v3 w3 O3 hb3; have cG3 := (G0.below hb3 G0.lt).cell)
    have HO3 := hide O3
    clear O3 cS cG cG3
    go_loopw [7, 8, 10, 28] (fun c7 c8 _ c28 wr => ∃ (k : Nat) (V : Value) (o : List Rn) (b : Bool), k ≤ l.length ∧ V = c7 ∧ c8 = .bool b ∧ c28 = .int .i64 (k : Int) ∧ Hid (OwnL LRn w2.heap.size wr V o) ∧ Hid (putF (sf, st) v (l.take k) = (o, b)) ∧ Below w2.heap.size w2 wr) (fun _ _ _ c28 _ => l.length - (intOf c28).toNat)
    case atStart => exact ⟨0, _, [], false, Nat.zero_le _, rfl, rfl, rfl, HO3, rfl, hb3⟩
    case round =>
      clear HO3 hb3
      obtain ⟨k, V, o, b, hk, rfl, rfl, rfl, HO, HF, hb⟩ := hrel
      by_cases hlt : k < l.length
      · obtain ⟨b0, off, hA, hbl, p0, p1, p2⟩ := HR.out.run_ k hlt
        subst hA
        obtain ⟨rf, rt, rv, hx⟩ : ∃ x0 x1 x2 : Int, l[k] = ((x0, x1), x2) := ⟨_, _, _, rfl⟩
        rw [hx] at p0 p1 p2
        simp only at p0 p1 p2
        have hBr : Below w.heap.size w wr := hB2.trans (hb.mono hB2.size)
        have e0 : wr.cell? ⟨b0, off + k * 3, none⟩ = some (.int .i64 rf) := by rw [hBr.cell (by show b0 < _; omega)]; exact p0
        have e1 : wr.cell? ⟨b0, off + k * 3 + 1, none⟩ = some (.int .i64 rt) := by rw [hBr.cell (by show b0 < _; omega)]; exact p1
        have e2 : wr.cell? ⟨b0, off + k * 3 + 2, none⟩ = some (.int .u8 rv) := by rw [hBr.cell (by show b0 < _; omega)]; exact p2
        have HX := hide hx
        clear p0 p1 p2 hx
        have hst := putF_take (s := (sf, st)) (v := v) hlt
        rw [HF.out, HX.out] at hst
        have HST := hide hst
        clear hst
        have hol : o.length ≤ 1000000 := by have := putF_len (v := v) HRN.out HS.out hk; rw [HF.out] at this; simp only at this; omega
        have hol3 : ((putF (sf, st) v (l.take (k + 1))).1).length ≤ 1000000 := by have := putF_len (v := v) HRN.out HS.out (show k + 1 ≤ l.length from hlt); omega
        have HOL3 := hide hol3
        clear hol3
        go_upto_region 10 with fail
        obtain ⟨w4, hw4⟩ : ∃ W : World, W = wr.alloc (.cells #[.int .i64 rf, .int .i64 rt, .int .u8 rv] 65) := ⟨_, rfl⟩
        first | rw [← hw4] | skip
        have X : Blk w4 wr.heap.size 65 #[.int .i64 rf, .int .i64 rt, .int .u8 rv] := by rw [hw4]; exact Blk.new _ _ _
        have hB4 : Below w2.heap.size w2 w4 := by rw [hw4]; exact hb.alloc hb.size _
        have HO4 : Hid (OwnL LRn w2.heap.size w4 V o) := by rw [hw4]; exact HO.out.alloc _
        have HNE := hide (show V.ownBlock ≠ some wr.heap.size from fun e => by have := (HO.out.lt _ e).2; omega)
        obtain ⟨xb, hxb⟩ : ∃ n, n = wr.heap.size := ⟨_, rfl⟩
        rw [← hxb] at X HNE ⊢
        clear hw4 e0 e1 e2 HO hb hxb hBr
        have S4 := S0.below hB4 S0.lt
        have cS := S4.cell
        have cX := X.cell
        go_upto_if 37 with fail
        go_cut [7] (fun p7 wx => ∃ V' : Value, V' = p7 ∧ Hid (OwnL LRn w2.heap.size wx V' (put1 (sf, st) o ((rf, rt), rv))) ∧ Blk wx xb 65 #[.int .i64 rf, .int .i64 rt, .int .u8 rv] ∧ Hid (V'.ownBlock ≠ some xb) ∧ Below w2.heap.size w2 wx)
        case first =>
          by_cases h1 : rf < sf
          · have d1 : decide (rf < sf) = true := decide_eq_true h1
            by_cases h5 : sf < rt
            · have HP := hide (show pushR o ((rf, sf), rv) = put1 (sf, st) o ((rf, rt), rv) by unfold put1; rw [if_pos h1]; simp only; rw [show min rt sf = sf by omega])
              have HLN := hide (show o.length ≤ 1000002 by omega)
              go_wp2_with fail
              refine (push_any w2.heap.size V o rf sf rv w4 HO4.out hB4.size HLN.out).mono ?_
              rintro e w9 ⟨v9, rfl, O9, hb9, hg9, hv9⟩
              have X9 := Blk.grownL X hg9 HNE.out
              have HNE9 := hide (show v9.ownBlock ≠ some xb from fun e => by
                rcases hv9 _ e with h | h
                · exact HNE.out h
                · have := X.lt; omega)
              have hB9 := hB4.trans (hb9.mono (Nat.le_refl _))
              rw [HP.out] at O9
              have HJ := hide O9
              clear hg9 hv9 O9 hb9 cX
              go_wp2_with fail
              go_meet
              exact ⟨_, rfl, HJ, X9, HNE9, hB9⟩
            · have HP := hide (show pushR o ((rf, rt), rv) = put1 (sf, st) o ((rf, rt), rv) by unfold put1; rw [if_pos h1]; simp only; rw [show min rt sf = rt by omega])
              have h5' : sf ≥ rt := by omega
              have HLN := hide (show o.length ≤ 1000002 by omega)
              go_wp2_with fail
              refine (push_any w2.heap.size V o rf rt rv w4 HO4.out hB4.size HLN.out).mono ?_
              rintro e w9 ⟨v9, rfl, O9, hb9, hg9, hv9⟩
              have X9 := Blk.grownL X hg9 HNE.out
              have HNE9 := hide (show v9.ownBlock ≠ some xb from fun e => by
                rcases hv9 _ e with h | h
                · exact HNE.out h
                · have := X.lt; omega)
              have hB9 := hB4.trans (hb9.mono (Nat.le_refl _))
              rw [HP.out] at O9
              have HJ := hide O9
              clear hg9 hv9 O9 hb9 cX
              go_wp2_with fail
              go_meet
              exact ⟨_, rfl, HJ, X9, HNE9, hB9⟩
          · have d1 : decide (rf < sf) = false := decide_eq_false h1
            have HJ : Hid (OwnL LRn w2.heap.size w4 V (put1 (sf, st) o ((rf, rt), rv))) := by rw [show put1 (sf, st) o ((rf, rt), rv) = o by unfold put1; rw [if_neg h1]]; exact HO4
            go_wp2_with fail
            go_meet
            exact ⟨_, rfl, HJ, X, HNE, hB4⟩
        case rest =>
          clear HO4 HNE hB4 X S4 cS cX
          obtain ⟨w5, hw5⟩ : ∃ W : World, W = wc := ⟨_, rfl⟩
          rw [← hw5] at hcut ⊢
          clear hw5
          obtain ⟨V5, rfl, HO5, X, HNE, hB5⟩ := hcut
          have S4 := S0.below hB5 S0.lt
          have cS := S4.cell
          have cX := X.cell
          obtain ⟨o1, ho1⟩ : ∃ x, x = put1 (sf, st) o ((rf, rt), rv) := ⟨_, rfl⟩
          rw [← ho1] at HO5
          have hol1 : o1.length ≤ 1000001 := by
            rw [ho1]
            unfold put1
            split
            · have := push_len o ((rf, min rt sf), rv)
              simp only at this ⊢
              omega
            · omega
          have HO1 := hide ho1
          clear ho1
          have HLN := hide (show o1.length ≤ 1000002 by omega)
          obtain ⟨q, hq⟩ : ∃ x, x = (!b && decide (rt > sf)) := ⟨_, rfl⟩
          have HQ := hide hq
          clear hq
          go_upto_region 12 with fail
          go_cut [62] (fun p62 wx => p62 = .bool q ∧ w5 = wx)
          case first =>
            cases b
            · by_cases h2 : sf < rt
              · go_wp2_with fail
                go_meet
                exact ⟨by rw [HQ.out]; simp [h2], rfl⟩
              · go_wp2_with fail
                go_meet
                exact ⟨by rw [HQ.out]; simp [h2], rfl⟩
            · go_wp2_with fail
              go_meet
              exact ⟨by rw [HQ.out]; rfl, rfl⟩
          case rest =>
          obtain ⟨rfl, rfl⟩ := hcut
          go_upto_if 62 with fail
          go_cut [7, 8] (fun p7 p8 wx => ∃ V' : Value, V' = p7 ∧ p8 = .bool (b || decide (sf < rt)) ∧ Hid (OwnL LRn w2.heap.size wx V' (put2 (sf, st) v o1 b ((rf, rt), rv))) ∧ Blk wx xb 65 #[.int .i64 rf, .int .i64 rt, .int .u8 rv] ∧ Hid (V'.ownBlock ≠ some xb) ∧ Below w2.heap.size w2 wx)
          case first =>
            cases q
            · have HJ : Hid (OwnL LRn w2.heap.size w5 V5 (put2 (sf, st) v o1 b ((rf, rt), rv))) := by rw [show put2 (sf, st) v o1 b ((rf, rt), rv) = o1 by unfold put2; rw [if_neg (fun h => by have := HQ.out; rw [h.1, decide_eq_true (show rt > sf from h.2)] at this; cases this)]]; exact HO5
              have HBE := hide (show b = (b || decide (sf < rt)) from q_false HQ.out)
              go_wp2_with fail
              go_meet
              exact ⟨_, rfl, (by rw [← HBE.out]), HJ, X, HNE, hB5⟩
            · have HP := hide (show pushR o1 ((sf, st), v) = put2 (sf, st) v o1 b ((rf, rt), rv) by have := HQ.out; simp at this; unfold put2; rw [if_pos ⟨this.1, this.2⟩])
              have HBE := hide (show true = (b || decide (sf < rt)) by have := HQ.out; simp at this; simp [this.2])
              go_wp2_with fail
              refine (push_any w2.heap.size V5 o1 sf st v w5 HO5.out hB5.size HLN.out).mono ?_
              rintro e w9 ⟨v9, rfl, O9, hb9, hg9, hv9⟩
              have X9 := Blk.grownL X hg9 HNE.out
              have HNE9 := hide (show v9.ownBlock ≠ some xb from fun e => by
                rcases hv9 _ e with h | h
                · exact HNE.out h
                · have := X.lt; omega)
              have hB9 := hB5.trans (hb9.mono (Nat.le_refl _))
              rw [HP.out] at O9
              have HJ := hide O9
              clear hg9 hv9 O9 hb9 cX
              go_wp2_with fail
              go_meet
              exact ⟨_, rfl, (by rw [← HBE.out]), HJ, X9, HNE9, hB9⟩
          case rest =>
            clear HO5 HNE hB5 X S4 cS cX
            obtain ⟨w6, hw6⟩ : ∃ W : World, W = wc := ⟨_, rfl⟩
            rw [← hw6] at hcut ⊢
            clear hw6
            obtain ⟨V6, rfl, rfl, HO6, X, HNE, hB6⟩ := hcut
            have S4 := S0.below hB6 S0.lt
            have cS := S4.cell
            have cX := X.cell
            obtain ⟨o2, ho2⟩ : ∃ x, x = put2 (sf, st) v o1 b ((rf, rt), rv) := ⟨_, rfl⟩
            rw [← ho2] at HO6
            have hol2 : o2.length ≤ 1000002 := by
              rw [ho2]
              unfold put2
              split
              · have := push_len o1 ((sf, st), v)
                omega
              · omega
            have HO2 := hide ho2
            clear ho2
            have HLN2 := hide hol2
            obtain ⟨b2, hb2⟩ : ∃ x, x = (b || decide (sf < rt)) := ⟨_, rfl⟩
            rw [← hb2]
            have HB2 := hide hb2
            clear hb2 hol hol1 hol2 HLN HOL3
            go_upto_if 73 with fail
            by_cases h3 : st < rt
            · have d3 : decide (rt > st) = true := decide_eq_true h3
              by_cases h6 : rf < st
              · have HP := hide (show pushR o2 ((st, rt), rv) = put3 (sf, st) o2 ((rf, rt), rv) by unfold put3; rw [if_pos h3]; simp only; rw [show max rf st = st by omega])
                have HLN := HLN2
                go_wp2_with fail
                refine (push_any w2.heap.size V6 o2 st rt rv w6 HO6.out hB6.size HLN.out).mono ?_
                rintro e w9 ⟨v9, rfl, O9, hb9, hg9, hv9⟩
                have X9 := Blk.grownL X hg9 HNE.out
                have HNE9 := hide (show v9.ownBlock ≠ some xb from fun e => by
                  rcases hv9 _ e with h | h
                  · exact HNE.out h
                  · have := X.lt; omega)
                have hB9 := hB6.trans (hb9.mono (Nat.le_refl _))
                rw [HP.out] at O9
                have HJ := hide O9
                clear hg9 hv9 O9 hb9 cX
                have HF2 := hide (show putF (sf, st) v (l.take (k + 1)) = (put3 (sf, st) o2 ((rf, rt), rv), b2) by rw [HST.out]; unfold putS; simp only; rw [HO2.out, HO1.out, HB2.out])
                clear HNE HST HO1 HO2 HB2 HX
                go_wp2_with fail
                go_roundw
                case rel => exact ⟨k + 1, _, _, _, by omega, rfl, rfl, by go_num, HJ, HF2, hB9⟩
                case measure => simp [intOf] <;> omega
              · have HP := hide (show pushR o2 ((rf, rt), rv) = put3 (sf, st) o2 ((rf, rt), rv) by unfold put3; rw [if_pos h3]; simp only; rw [show max rf st = rf by omega])
                have h6' : rf ≥ st := by omega
                have HLN := HLN2
                go_wp2_with fail
                refine (push_any w2.heap.size V6 o2 rf rt rv w6 HO6.out hB6.size HLN.out).mono ?_
                rintro e w9 ⟨v9, rfl, O9, hb9, hg9, hv9⟩
                have X9 := Blk.grownL X hg9 HNE.out
                have HNE9 := hide (show v9.ownBlock ≠ some xb from fun e => by
                  rcases hv9 _ e with h | h
                  · exact HNE.out h
                  · have := X.lt; omega)
                have hB9 := hB6.trans (hb9.mono (Nat.le_refl _))
                rw [HP.out] at O9
                have HJ := hide O9
                clear hg9 hv9 O9 hb9 cX
                have HF2 := hide (show putF (sf, st) v (l.take (k + 1)) = (put3 (sf, st) o2 ((rf, rt), rv), b2) by rw [HST.out]; unfold putS; simp only; rw [HO2.out, HO1.out, HB2.out])
                clear HNE HST HO1 HO2 HB2 HX
                go_wp2_with fail
                go_roundw
                case rel => exact ⟨k + 1, _, _, _, by omega, rfl, rfl, by go_num, HJ, HF2, hB9⟩
                case measure => simp [intOf] <;> omega
            · have d3 : decide (rt > st) = false := decide_eq_false h3
              have HJ : Hid (OwnL LRn w2.heap.size w6 V6 (put3 (sf, st) o2 ((rf, rt), rv))) := by rw [show put3 (sf, st) o2 ((rf, rt), rv) = o2 by unfold put3; rw [if_neg h3]]; exact HO6
              have HF2 := hide (show putF (sf, st) v (l.take (k + 1)) = (put3 (sf, st) o2 ((rf, rt), rv), b2) by rw [HST.out]; unfold putS; simp only; rw [HO2.out, HO1.out, HB2.out])
              clear HNE HST HO1 HO2 HB2 HX
              go_wp2_with fail
              go_roundw
              case rel => exact ⟨k + 1, _, _, _, by omega, rfl, rfl, by go_num, HJ, HF2, hB6⟩
              case measure => simp [intOf] <;> omega
      · have hF := HF.out
        rw [List.take_of_length_le (by omega)] at hF
        have hol : o.length ≤ 1000000 := by have := putF_len (v := v) HRN.out HS.out hk; rw [HF.out] at this; simp only at this; omega
        have S4 := S0.below hb S0.lt
        have cS := S4.cell
        obtain ⟨w4, hw4⟩ : ∃ W : World, W = wr := ⟨_, rfl⟩
        rw [← hw4] at HO hb S4 cS ⊢
        clear hw4
        cases b
        · have HPR := hide (show R = pushR o ((sf, st), v) by rw [HPR0.out]; unfold putR; rw [hF]; rfl)
          clear hF HF
          go_wp2_with fail
          refine (push_any w2.heap.size V o sf st v w4 HO.out hb.size (by omega)).mono ?_
          rintro e w9 ⟨v9, rfl, O9, hb9, _, _⟩
          have hB9 := hb.trans (hb9.mono (Nat.le_refl _))
          have HO9 := hide O9
          clear O9 hb9 HO
          have hBw := hB2.trans (hB9.mono hB2.size)
          have G := G0.below hB9 G0.lt
          have cG := G.cell
          have fG := G.frozen 0
          have lG := G.lt
          obtain ⟨A5, k5, hv5, _, _⟩ := HO9.out.rd.form
          have HR8 := hide (HO9.out.rd_set (g := gm) (i := 0) (by have := hB2.size; have := hG.lt; omega) v9)
          subst hv5
          clear HO9
          have HG8 := hide (show Blk (w9.setCell ⟨gm, 0, none⟩ (.slice A5 (pushR o ((sf, st), v)).length k5)) gm 58 #[.slice A5 (pushR o ((sf, st), v)).length k5] from by simpa using G.set_ 0 (.slice A5 (pushR o ((sf, st), v)).length k5))
          go_wp2_with fail
          go_ret
          exact ⟨_, _, rfl, HG8.out, by rw [HPR.out]; exact HR8.out, grown_set hBw _⟩
        · have HPR := hide (show R = o by rw [HPR0.out]; unfold putR; rw [hF]; rfl)
          clear hF HF
          have HO4 := HO
          have hB4 := hb
          clear HO hb
          have hBw := hB2.trans (hB4.mono hB2.size)
          have G := G0.below hB4 G0.lt
          have cG := G.cell
          have fG := G.frozen 0
          have lG := G.lt
          obtain ⟨A5, k5, hv5, _, _⟩ := HO4.out.rd.form
          have HR8 := hide (HO4.out.rd_set (g := gm) (i := 0) (by have := hB2.size; have := hG.lt; omega) V)
          subst hv5
          clear HO4
          have HG8 := hide (show Blk (w4.setCell ⟨gm, 0, none⟩ (.slice A5 (o).length k5)) gm 58 #[.slice A5 (o).length k5] from by simpa using G.set_ 0 (.slice A5 (o).length k5))
          go_wp2_with fail
          go_ret
          exact ⟨_, _, rfl, HG8.out, by rw [HPR.out]; exact HR8.out, grown_set hBw _⟩

end Go.Proofs.YtfcbmajogmojbaaDoor
