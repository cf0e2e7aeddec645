/-
  What is dropped from a map.
-/
import Derived.Test.YtfcbmajogmojbaaDoorMapB
namespace Go.Proofs.YtfcbmajogmojbaaDoor
open Go.RowKit
set_option linter.unusedVariables false
set_option linter.unusedSimpArgs false

set_option maxRecDepth 100000 in
set_option maxHeartbeats 16000000 in
theorem drop_any (gm : Nat) (V0 : Value) (l : List Rn) (sf st : Int) (w : World) (hG : Blk w gm 58 #[V0]) (hr : RdL LRn w w.heap.size V0 l) (hN : RNf l) (hll : l.length ≤ 10000) : Calls Tryd.prog 9 #[.pointer (some ⟨gm, 0, none⟩), .agg #[.int .i64 sf, .int .i64 st]] w (MapOk gm (if properB sf st = true then dropR (sf, st) l else l) w) := by
  obtain ⟨A, c, rfl, hlc, hc⟩ := hr.form
  have HR := hide hr
  clear hr
  obtain ⟨R, hR⟩ : ∃ R, R = (if properB sf st = true then dropR (sf, st) l else l) := ⟨_, rfl⟩
  rw [← hR]
  cases hp : properB sf st
  · have HPR := hide (show R = l by rw [hR, hp]; rfl)
    clear hR
    go_enter Tryd.func9, Tryd.ntmps9
    go_upto_region 1 with fail
    obtain ⟨w1, hw1⟩ : ∃ w1 : World, w1 = w.alloc (.cells #[.int .i64 sf, .int .i64 st] 31) := ⟨_, rfl⟩
    rw [← hw1]
    have hB1 : Below w.heap.size w w1 := by rw [hw1]; exact (Below.refl _ _).alloc (Nat.le_refl _) _
    have S : Blk w1 w.heap.size 31 #[.int .i64 sf, .int .i64 st] := by rw [hw1]; exact Blk.new _ _ _
    have G : Blk w1 gm 58 #[.slice A l.length c] := by rw [hw1]; exact hG.alloc _
    clear hw1
    have cS := S.cell
    have cG := G.cell
    go_wp2_with fail
    refine (proper_any sf st w1).mono ?_
    rw [hp]
    rintro e w2 ⟨rfl, hb2⟩
    have hB2 := hB1.trans (hb2.mono hB1.size)
    have S0 := S.below hb2 S.lt
    have G0 := G.below hb2 G.lt
    clear cS cG S G hb2
    have cS := S0.cell
    have cG := G0.cell
    clear hp
    go_wp2_with fail
    first | go_end0 | refine bodyPost_ret (results_none rfl _ _ _) rfl ?_
    exact ⟨_, _, rfl, G0, by rw [HPR.out]; exact (HR.out.below hB2).mono hB2.size, grown_none hB2 _⟩
  · have hok := proper_ok hp
    have HS := hide hok
    have HRN := hide hN
    have HPR0 := hide (show R = dropR (sf, st) l by rw [hR, hp]; rfl)
    clear hR
    go_enter Tryd.func9, Tryd.ntmps9
    go_upto_region 1 with fail
    obtain ⟨w1, hw1⟩ : ∃ w1 : World, w1 = w.alloc (.cells #[.int .i64 sf, .int .i64 st] 31) := ⟨_, rfl⟩
    rw [← hw1]
    have hB1 : Below w.heap.size w w1 := by rw [hw1]; exact (Below.refl _ _).alloc (Nat.le_refl _) _
    have S : Blk w1 w.heap.size 31 #[.int .i64 sf, .int .i64 st] := by rw [hw1]; exact Blk.new _ _ _
    have G : Blk w1 gm 58 #[.slice A l.length c] := by rw [hw1]; exact hG.alloc _
    clear hw1
    have cS := S.cell
    have cG := G.cell
    go_wp2_with fail
    refine (proper_any sf st w1).mono ?_
    rw [hp]
    rintro e w2 ⟨rfl, hb2⟩
    have hB2 := hB1.trans (hb2.mono hB1.size)
    have S0 := S.below hb2 S.lt
    have G0 := G.below hb2 G.lt
    clear cS cG S G hb2
    have cS := S0.cell
    have cG := G0.cell
    clear hp hok hN
    go_wp2_with (refine wpList_mkL LRn (by rfl) (.const (.int .i64 0)) (.tmp 19) _ (by rfl) rfl ((l.length : Int) + 1) (l.length + 1) (by rfl) (by rfl) (by omega) (by simp only [LRn]; omega) (by unfold maxLen; omega) ?_; intro v3 w3 O3 hb3; have cG3 := (G0.below hb3 G0.lt).cell)
    have HO3 := hide O3
    clear O3 cS cG cG3
    go_loopw [4, 6, 26] (fun c4 _ c26 wr => ∃ (k : Nat) (V : Value) (o : List Rn), k ≤ l.length ∧ V = c4 ∧ c26 = .int .i64 (k : Int) ∧ Hid (OwnL LRn w2.heap.size wr V o) ∧ Hid (o = dropR (sf, st) (l.take k)) ∧ Below w2.heap.size w2 wr) (fun _ _ c26 _ => l.length - (intOf c26).toNat)
    case atStart => exact ⟨0, _, [], Nat.zero_le _, rfl, rfl, HO3, rfl, hb3⟩
    case round =>
      clear HO3 hb3
      obtain ⟨k, V, o, hk, rfl, rfl, HO, HD, hb⟩ := hrel
      by_cases hlt : k < l.length
      · obtain ⟨b0, off, hA, hbl, p0, p1, p2⟩ := HR.out.run_ k hlt
        subst hA
        obtain ⟨rf, rt, rv, hx⟩ : ∃ x0 x1 x2 : Int, l[k] = ((x0, x1), x2) := ⟨_, _, _, rfl⟩
        rw [hx] at p0 p1 p2
        simp only at p0 p1 p2
        have hBr : Below w.heap.size w wr := hB2.trans (hb.mono hB2.size)
        have e0 : wr.cell? ⟨b0, off + k * 3, none⟩ = some (.int .i64 rf) := by rw [hBr.cell (by show b0 < _; omega)]; exact p0
        have e1 : wr.cell? ⟨b0, off + k * 3 + 1, none⟩ = some (.int .i64 rt) := by rw [hBr.cell (by show b0 < _; omega)]; exact p1
        have e2 : wr.cell? ⟨b0, off + k * 3 + 2, none⟩ = some (.int .u8 rv) := by rw [hBr.cell (by show b0 < _; omega)]; exact p2
        have HX := hide hx
        clear p0 p1 p2 hx
        have hst := drop_take (s := (sf, st)) hlt
        rw [HX.out] at hst
        have HST := hide hst
        clear hst
        have hol : o.length ≤ 1000000 := by rw [HD.out]; have := drop_lenk HS.out HRN.out k; omega
        go_upto_region 6 with fail
        obtain ⟨w4, hw4⟩ : ∃ W : World, W = wr.alloc (.cells #[.int .i64 rf, .int .i64 rt, .int .u8 rv] 65) := ⟨_, rfl⟩
        first | rw [← hw4] | skip
        have X : Blk w4 wr.heap.size 65 #[.int .i64 rf, .int .i64 rt, .int .u8 rv] := by rw [hw4]; exact Blk.new _ _ _
        have hB4 : Below w2.heap.size w2 w4 := by rw [hw4]; exact hb.alloc hb.size _
        have HO4 : Hid (OwnL LRn w2.heap.size w4 V o) := by rw [hw4]; exact HO.out.alloc _
        have HNE := hide (show V.ownBlock ≠ some wr.heap.size from fun e => by have := (HO.out.lt _ e).2; omega)
        obtain ⟨xb, hxb⟩ : ∃ n, n = wr.heap.size := ⟨_, rfl⟩
        rw [← hxb] at X HNE ⊢
        clear hw4 e0 e1 e2 HO hb hxb hBr
        have S4 := S0.below hB4 S0.lt
        have cS := S4.cell
        have cX := X.cell
        go_upto_if 35 with fail
        go_cut [4] (fun p4 wx => ∃ V' : Value, V' = p4 ∧ Hid (OwnL LRn w2.heap.size wx V' (o ++ (if rf < sf then [((rf, min rt sf), rv)] else []))) ∧ Blk wx xb 65 #[.int .i64 rf, .int .i64 rt, .int .u8 rv] ∧ Hid (V'.ownBlock ≠ some xb) ∧ Below w2.heap.size w2 wx)
        case first =>
          by_cases h1 : rf < sf
          · have d1 : decide (rf < sf) = true := decide_eq_true h1
            by_cases h5 : sf < rt
            · have HP := hide (show o ++ [((rf, sf), rv)] = o ++ (if rf < sf then [((rf, min rt sf), rv)] else []) by rw [if_pos h1, show min rt sf = sf by omega])
              have HLN := hide hol
              have hzz := hB4.size
              have R5 : RdL LRn (w4.alloc (.cells #[.int .i64 rf, .int .i64 sf, .int .u8 rv] 65)) (w4.heap.size + 1) (.slice (some ⟨w4.heap.size, 0, none⟩) 1 1) [((rf, sf), rv)] := by
                have := RdL.one_ (L := LRn) (x := ((rf, sf), rv)) (Blk.new w4 65 #[.int .i64 rf, .int .i64 sf, .int .u8 rv]) rfl
                simpa using this
              have HL9 := hide (show (o).length + [((rf, sf), rv)].length ≤ 1000000000 by have := HLN.out; rw [List.length_singleton]; omega)
              go_wp2_with (at_builtin; refine wpList_appL LRn w2 (by rfl) (.tmp 36) (.tmp 50) _ _ (by rfl) rfl rfl w2.heap.size _ _ (by rfl) (HO4.out.alloc _) (hB4.alloc (by omega) _) (by simp; omega) _ [((rf, sf), rv)] _ (by rfl) R5 (by decide) HL9.out ?_)
              intro v9 w9 O9 hB9 hg9 hv9
              have X9 := Blk.grownL (X.alloc _) hg9 HNE.out
              have HNE9 := hide (show v9.ownBlock ≠ some xb from fun e => by
                rcases hv9 with h | h
                · exact HNE.out (h ▸ e)
                · rw [h] at e; simp at e; have := X.lt; omega)
              
              rw [HP.out] at O9
              have HJ := hide O9
              clear hg9 hv9 O9 cX R5 HL9 hzz
              go_wp2_with fail
              go_meet
              exact ⟨_, rfl, HJ, X9, HNE9, hB9⟩
            · have HP := hide (show o ++ [((rf, rt), rv)] = o ++ (if rf < sf then [((rf, min rt sf), rv)] else []) by rw [if_pos h1, show min rt sf = rt by omega])
              have h5' : sf ≥ rt := by omega
              have HLN := hide hol
              have hzz := hB4.size
              have R5 : RdL LRn (w4.alloc (.cells #[.int .i64 rf, .int .i64 rt, .int .u8 rv] 65)) (w4.heap.size + 1) (.slice (some ⟨w4.heap.size, 0, none⟩) 1 1) [((rf, rt), rv)] := by
                have := RdL.one_ (L := LRn) (x := ((rf, rt), rv)) (Blk.new w4 65 #[.int .i64 rf, .int .i64 rt, .int .u8 rv]) rfl
                simpa using this
              have HL9 := hide (show (o).length + [((rf, rt), rv)].length ≤ 1000000000 by have := HLN.out; rw [List.length_singleton]; omega)
              go_wp2_with (at_builtin; refine wpList_appL LRn w2 (by rfl) (.tmp 36) (.tmp 50) _ _ (by rfl) rfl rfl w2.heap.size _ _ (by rfl) (HO4.out.alloc _) (hB4.alloc (by omega) _) (by simp; omega) _ [((rf, rt), rv)] _ (by rfl) R5 (by decide) HL9.out ?_)
              intro v9 w9 O9 hB9 hg9 hv9
              have X9 := Blk.grownL (X.alloc _) hg9 HNE.out
              have HNE9 := hide (show v9.ownBlock ≠ some xb from fun e => by
                rcases hv9 with h | h
                · exact HNE.out (h ▸ e)
                · rw [h] at e; simp at e; have := X.lt; omega)
              
              rw [HP.out] at O9
              have HJ := hide O9
              clear hg9 hv9 O9 cX R5 HL9 hzz
              go_wp2_with fail
              go_meet
              exact ⟨_, rfl, HJ, X9, HNE9, hB9⟩
          · have d1 : decide (rf < sf) = false := decide_eq_false h1
            have HJ : Hid (OwnL LRn w2.heap.size w4 V (o ++ (if rf < sf then [((rf, min rt sf), rv)] else []))) := by rw [if_neg h1, List.append_nil]; exact HO4
            go_wp2_with fail
            go_meet
            exact ⟨_, rfl, HJ, X, HNE, hB4⟩
        case rest =>
          clear HO4 HNE hB4 X S4 cS cX
          obtain ⟨w5, hw5⟩ : ∃ W : World, W = wc := ⟨_, rfl⟩
          rw [← hw5] at hcut ⊢
          clear hw5
          obtain ⟨V5, rfl, HO5, X, HNE, hB5⟩ := hcut
          have S4 := S0.below hB5 S0.lt
          have cS := S4.cell
          have cX := X.cell
          obtain ⟨o1, ho1⟩ : ∃ x, x = o ++ (if rf < sf then [((rf, min rt sf), rv)] else []) := ⟨_, rfl⟩
          rw [← ho1] at HO5
          have hol1 : o1.length ≤ 1000001 := by
            rw [ho1, List.length_append]
            split
            · simp; omega
            · simp; omega
          have HO1 := hide ho1
          clear ho1 hol
          have HLN2 := hide hol1
          go_upto_if 57 with fail
          by_cases h3 : st < rt
          · have d3 : decide (rt > st) = true := decide_eq_true h3
            by_cases h6 : rf < st
            · have HLN := HLN2
              have hzz := hB5.size
              have R5 : RdL LRn (w5.alloc (.cells #[.int .i64 st, .int .i64 rt, .int .u8 rv] 65)) (w5.heap.size + 1) (.slice (some ⟨w5.heap.size, 0, none⟩) 1 1) [((st, rt), rv)] := by
                have := RdL.one_ (L := LRn) (x := ((st, rt), rv)) (Blk.new w5 65 #[.int .i64 st, .int .i64 rt, .int .u8 rv]) rfl
                simpa using this
              have HL9 := hide (show (o1).length + [((st, rt), rv)].length ≤ 1000000000 by have := HLN.out; rw [List.length_singleton]; omega)
              go_wp2_with (at_builtin; refine wpList_appL LRn w2 (by rfl) (.tmp 58) (.tmp 72) _ _ (by rfl) rfl rfl w2.heap.size _ _ (by rfl) (HO5.out.alloc _) (hB5.alloc (by omega) _) (by simp; omega) _ [((st, rt), rv)] _ (by rfl) R5 (by decide) HL9.out ?_)
              intro v9 w9 O9 hB9 hg9 hv9
              have X9 := Blk.grownL (X.alloc _) hg9 HNE.out
              have HNE9 := hide (show v9.ownBlock ≠ some xb from fun e => by
                rcases hv9 with h | h
                · exact HNE.out (h ▸ e)
                · rw [h] at e; simp at e; have := X.lt; omega)
              
              have HJ := hide O9
              clear hg9 hv9 O9 cX R5 HL9 hzz
              have HD2 := hide (show (o1 ++ [((st, rt), rv)]) = dropR (sf, st) (l.take (k + 1)) by rw [HST.out, HO1.out, HD.out]; unfold drop1; simp only; rw [if_pos h3, show max rf st = st by omega, List.append_assoc])
              clear HNE HST HO1 HX
              go_wp2_with fail
              go_roundw
              case rel => exact ⟨k + 1, _, _, by omega, rfl, by go_num, HJ, HD2, hB9⟩
              case measure => simp [intOf] <;> omega
            · have h6' : rf ≥ st := by omega
              have HLN := HLN2
              have hzz := hB5.size
              have R5 : RdL LRn (w5.alloc (.cells #[.int .i64 rf, .int .i64 rt, .int .u8 rv] 65)) (w5.heap.size + 1) (.slice (some ⟨w5.heap.size, 0, none⟩) 1 1) [((rf, rt), rv)] := by
                have := RdL.one_ (L := LRn) (x := ((rf, rt), rv)) (Blk.new w5 65 #[.int .i64 rf, .int .i64 rt, .int .u8 rv]) rfl
                simpa using this
              have HL9 := hide (show (o1).length + [((rf, rt), rv)].length ≤ 1000000000 by have := HLN.out; rw [List.length_singleton]; omega)
              go_wp2_with (at_builtin; refine wpList_appL LRn w2 (by rfl) (.tmp 58) (.tmp 72) _ _ (by rfl) rfl rfl w2.heap.size _ _ (by rfl) (HO5.out.alloc _) (hB5.alloc (by omega) _) (by simp; omega) _ [((rf, rt), rv)] _ (by rfl) R5 (by decide) HL9.out ?_)
              intro v9 w9 O9 hB9 hg9 hv9
              have X9 := Blk.grownL (X.alloc _) hg9 HNE.out
              have HNE9 := hide (show v9.ownBlock ≠ some xb from fun e => by
                rcases hv9 with h | h
                · exact HNE.out (h ▸ e)
                · rw [h] at e; simp at e; have := X.lt; omega)
              
              have HJ := hide O9
              clear hg9 hv9 O9 cX R5 HL9 hzz
              have HD2 := hide (show (o1 ++ [((rf, rt), rv)]) = dropR (sf, st) (l.take (k + 1)) by rw [HST.out, HO1.out, HD.out]; unfold drop1; simp only; rw [if_pos h3, show max rf st = rf by omega, List.append_assoc])
              clear HNE HST HO1 HX
              go_wp2_with fail
              go_roundw
              case rel => exact ⟨k + 1, _, _, by omega, rfl, by go_num, HJ, HD2, hB9⟩
              case measure => simp [intOf] <;> omega
          · have d3 : decide (rt > st) = false := decide_eq_false h3
            have HJ := HO5
            have HD2 := hide (show o1 = dropR (sf, st) (l.take (k + 1)) by rw [HST.out, HO1.out, HD.out]; unfold drop1; simp only; rw [if_neg h3, List.append_nil])
            clear HNE HST HO1 HX
            go_wp2_with fail
            go_roundw
            case rel => exact ⟨k + 1, _, _, by omega, rfl, by go_num, HJ, HD2, hB5⟩
            case measure => simp [intOf] <;> omega
      · have hD := HD.out
        rw [List.take_of_length_le (by omega)] at hD
        have hBw := hB2.trans (hb.mono hB2.size)
        have G := G0.below hb G0.lt
        have cG := G.cell
        have fG := G.frozen 0
        have lG := G.lt
        obtain ⟨A5, k5, hv5, _, _⟩ := HO.out.rd.form
        have HR8 := hide (HO.out.rd_set (g := gm) (i := 0) (by have := hB2.size; have := hG.lt; omega) V)
        subst hv5
        clear HO
        have HPR := hide (show R = o by rw [HPR0.out, hD])
        clear hD HD
        have HG8 := hide (show Blk (wr.setCell ⟨gm, 0, none⟩ (.slice A5 o.length k5)) gm 58 #[.slice A5 o.length k5] from by simpa using G.set_ 0 (.slice A5 o.length k5))
        go_wp2_with fail
        go_end0
        exact ⟨_, _, rfl, HG8.out, by rw [HPR.out]; exact HR8.out, grown_set hBw _⟩

set_option maxRecDepth 100000 in
set_option maxHeartbeats 1000000 in
theorem newmap_any (w : World) : Calls Tryd.prog 6 #[] w fun e w' => e = .returned (.pointer (some ⟨w.heap.size, 0, none⟩)) ∧ w' = w.alloc (.cells #[.slice none 0 0] 58) := by
  go_enter Tryd.func6, Tryd.ntmps6
  go_wp2
  go_ret
  exact ⟨rfl, rfl⟩

set_option maxRecDepth 100000 in
set_option maxHeartbeats 1000000 in
theorem maplen_any (gm : Nat) (A : Option Addr) (n c : Nat) (w : World) (hG : Blk w gm 58 #[.slice A n c]) : Calls Tryd.prog 16 #[.pointer (some ⟨gm, 0, none⟩)] w fun e w' => e = .returned (.int .i64 (n : Int)) ∧ w' = w := by
  have cG := hG.cell
  clear hG
  go_enter Tryd.func16, Tryd.ntmps16
  go_wp2
  go_ret
  exact ⟨rfl, rfl⟩

end Go.Proofs.YtfcbmajogmojbaaDoor
